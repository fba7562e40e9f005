/- Contracts of functions, over the symbolic executor: each comes to what its theorem says. Written by gen.py, a program of this work. -/
import Derived.Test.YtmfkmoecbnghhaaDoorA4
namespace Go.YtmfkmoecbnghhaaDoor
open Go Eng Go.Proofs Law
set_option linter.unusedVariables false
set_option linter.unusedSimpArgs false

theorem wr_at {xs : List Sc} {i : Nat} (hi : i < xs.length) (h : ¬ Wr xs[i]) : ¬ ∀ c ∈ xs, Wr c := fun ha => h (ha _ (List.getElem_mem hi))
theorem wr_next {xs : List Sc} {i : Nat} (hi : i < xs.length) (h0 : ∀ c ∈ xs.take i, Wr c) (h : Wr xs[i]) : ∀ c ∈ xs.take (i + 1), Wr c := by
  rw [List.take_add_one, List.getElem?_eq_getElem hi]
  intro c hc
  rcases List.mem_append.1 hc with hc | hc
  · exact h0 c hc
  · simp only [Option.toList_some, List.mem_singleton] at hc
    subst hc
    exact h
theorem wr_all {xs : List Sc} {i : Nat} (hi : xs.length ≤ i) (h0 : ∀ c ∈ xs.take i, Wr c) : ∀ c ∈ xs, Wr c := by rwa [List.take_of_length_le hi] at h0
theorem wr_inR {c : Sc} (h : Wr c) : InR c.no ∧ InR c.a ∧ InR c.b := by
  obtain ⟨h1, h2, h3⟩ := h
  unfold Rg at h2 h3
  unfold InR
  omega

def cellsC : List Sc → List Value
  | [] => []
  | c :: r => Sc.cells c ++ cellsC r

theorem cellsC_next (cs : List Sc) (c : Sc) : cellsC (cs ++ [c]) = cellsC cs ++ Sc.cells c := by
  induction cs with
  | nil => simp [cellsC]
  | cons d cs ih => simp [cellsC, ih]

theorem cellsC_len (cs : List Sc) : (cellsC cs).length = cs.length * 3 := by
  induction cs with
  | nil => rfl
  | cons d cs ih => simp only [cellsC, List.length_append, ih, Sc.cells, List.length_cons, List.length_nil]; omega

theorem Reads_sc {S : Nat → Prop} {w : World} : ∀ (cs : List Sc), (∀ c ∈ cs, InR c.no ∧ InR c.a ∧ InR c.b) → Reads scE S w (cellsC cs) cs
  | [], _ => Reads.nil
  | c :: cs, h => by
    have h1 : Reads scE S w (Sc.cells c) [c] := Reads.one ⟨rfl, h c (by simp)⟩
    have h2 := Reads_sc (S := S) (w := w) cs fun d hd => h d (by simp [hd])
    have := h1.app (by rfl) h2
    exact this

theorem Reads_wr {S : Nat → Prop} {w : World} (cs : List Sc) (h : ∀ c ∈ cs, Wr c) : Reads scE S w (cellsC cs) cs := Reads_sc cs fun c hc => wr_inR (h c hc)

theorem row_next {ra : Option Addr} {rc : Nat} {cs : List Sc} {c : Sc} {tl : List LB} (h : RowOK 36 3 ⟨ra, cs.length + 1, rc⟩ (cellsC cs ++ Sc.cells c) tl) : RowOK 36 3 ⟨ra, (cs ++ [c]).length, rc⟩ (cellsC (cs ++ [c])) tl := by
  rw [cellsC_next]
  simpa using h

theorem one_pos {l : List UInt8} {p : Nat} {c : Sc} {r : Int} (h : OneR l p c r) (hr : 0 ≤ r) : Wr c ∧ (∃ t, l.drop p = scL c ++ t) ∧ r = ((p + (scL c).length : Nat) : Int) := by
  rcases h with ⟨h1, t, h2, h3⟩ | ⟨_, h1⟩
  · exact ⟨h1, ⟨t, h2⟩, h3⟩
  · omega
theorem one_neg {l : List UInt8} {p : Nat} {c : Sc} {r : Int} (h : OneR l p c r) (hr : r < 0) : ∀ d, Wr d → ∀ t, l.drop p ≠ scL d ++ t := by
  rcases h with ⟨h1, t, h2, h3⟩ | ⟨h1, _⟩
  · omega
  · exact h1
theorem scL_pos (c : Sc) : 1 ≤ (scL c).length := by
  rcases Nat.eq_zero_or_pos (scL c).length with h | h
  · exact absurd (List.eq_nil_of_length_eq_zero h) (scL_ne c)
  · exact h
theorem pr_next {l : List UInt8} {p : Nat} {cs : List Sc} {c : Sc} (h : l.take p = printL cs) (hp : p ≤ l.length) (h2 : ∃ t, l.drop p = scL c ++ t) : l.take (p + (scL c).length) = printL (cs ++ [c]) ∧ p + (scL c).length ≤ l.length := by
  obtain ⟨t, h2⟩ := h2
  have h3 := List.take_append_drop p l
  rw [h, h2] at h3
  have hl : (printL cs).length = p := by rw [← h, List.length_take]; omega
  refine ⟨?_, ?_⟩
  · rw [printL_app, ← h3, ← List.append_assoc]
    simp only [printL, List.append_nil]
    exact List.take_left' (by simp [hl])
  · rw [← h3]; simp [hl]
theorem sp_all {l : List UInt8} {p : Nat} {cs : List Sc} (h : l.take p = printL cs) (hp : l.length ≤ p) (hw : ∀ c ∈ cs, Wr c) : Split l cs [] := by
  rw [List.take_of_length_le hp] at h
  exact h ▸ Split.print hw
theorem sp_part {l : List UInt8} {p : Nat} {cs : List Sc} (h : l.take p = printL cs) (hp : p < l.length) (hw : ∀ c ∈ cs, Wr c) (hn : ∀ d, Wr d → ∀ t, l.drop p ≠ scL d ++ t) : Split l cs (l.drop p) ∧ l.drop p ≠ [] ∧ p = (printL cs).length :=
  ⟨⟨hw, by rw [← h, List.take_append_drop], hn⟩, by
    intro e
    have := congrArg List.length e
    rw [List.length_drop] at this
    simp at this
    omega, by rw [← h, List.length_take]; omega⟩
/-- What a text's reading comes to. -/
def ParseR (l : List UInt8) (S : Nat → Prop) (w : World) (v : Value) : Prop :=
  ∃ cs r, Split l cs r ∧ ((r = [] ∧ ∃ x : Sl, v = .tuple #[.slice x.a x.n x.c, .int .i64 (l.length : Int), .int .i64 0] ∧ RSl scE S w x cs) ∨ (r ≠ [] ∧ v = .tuple #[.slice none 0 0, .int .i64 ((printL cs).length : Int), .int .i64 1]))

theorem f13 (x : Sl) (xs : List Sc) (S : Nat → Prop) (w : World) (hP : Pre S w []) (hx : RSl scE S w x xs) (hb : xs.length ≤ 1000000) :
    Calls Tryd.prog 13 #[.slice x.a x.n x.c] w (Ret S w [] fun v_ ls_ S_ w_ => v_ = .bool (decide (∀ c ∈ xs, Wr c))) := by
  have hxn := hx.n
  refine Calls_of_VC (ls := []) ⟨[(0, .slice x.a x.n x.c)], []⟩ Tryd.func13 rfl (by kernel_rfl) (by kernel_rfl) hP ?_
  refine VC_go (hs := [0]) TOK [0, 2] ⟨[(0, .slice x.a x.n x.c), (2, .bool false)], []⟩ [] (by kernel_rfl) (by kernel_rfl) ?_
  refine VC_seq ?_
  refine VC_go (hs := [0]) TOK [0, 2, 3] ⟨[(0, .slice x.a x.n x.c), (2, .bool false), (3, .int .i64 0)], []⟩ [] (by kernel_rfl) (by kernel_rfl) ?_
  refine VC_block ?_
  refine VC_keep [0, 3] [] 0 ⟨[(0, .slice x.a x.n x.c), (3, .int .i64 (0 : Int))], []⟩ (by kernel_rfl) (by kernel_rfl) ?_
  refine VC_loop (J := fun m_ S' w' st_ => ∃ (i : Nat), (i ≤ x.n) ∧ (∀ c ∈ xs.take i, Wr c) ∧ m_ = x.n - i ∧ Ext S w S' w' ∧ st_ = ⟨[(0, .slice x.a x.n x.c), (3, .int .i64 (i : Int))], []⟩) (x.n - 0) ⟨0, (by exact Nat.zero_le _), (by simp), rfl, Ext.refl _ _, rfl⟩ ?_
  rintro _ S1 w2 _ ⟨i, hi, hw, rfl, hx3, rfl⟩
  have hx := hx.ext hx3
  -- a round
  refine VC_seq ?_
  refine VC_go (hs := [0, 0, 0, 0]) TOK [0, 3, 8] ⟨[(0, .slice x.a x.n x.c), (3, .int .i64 (i : Int)), (8, .bool (decide ((i : Int) < (x.n : Int))))], []⟩ [] (by kernel_rfl) (by kernel_rfl) ?_
  refine VC_cond (decide ((i : Int) < (x.n : Int))) (by kernel_rfl) (fun h4 => ?_) (fun h4 => ?_)
  · skip
    replace h4 := of_decide_eq_true h4
    refine VC_skip ?_
    refine KE_then ?_
    refine VC_seq ?_
    refine VC_block ?_
    refine VC_seq ?_
    refine VC_region 6 rfl ?_
    refine RV_go (hs := [0, 0]) (c' := 4) (k' := 2) TOK [0, 3, 11, 12] ⟨[(0, .slice x.a x.n x.c), (3, .int .i64 (i : Int)), (11, .slice x.a x.n x.c), (12, .int .i64 (i : Int))], []⟩ [] (by kernel_rfl) (by kernel_rfl) ?_
    obtain ⟨b5, o6, ha7⟩ := hx.addr (Nat.lt_of_le_of_lt (Nat.zero_le i) (by have := hx.n; omega))
    refine RV_st ⟨[(0, .slice (some ⟨b5, o6, none⟩) x.n x.c), (3, .int .i64 (i : Int)), (11, .slice (some ⟨b5, o6, none⟩) x.n x.c), (12, .int .i64 (i : Int))], []⟩ (by simp only [ha7]) ?_
    obtain ⟨vs_, hro8, ⟨rfl, hr1, hr2, hr3⟩⟩ := hx.here ha7 i (by have := hx.n; omega)
    refine RV_run (hs := [0, 1000]) (c' := 2) (k' := 4) TOK [⟨b5, o6 + i * 3, [.int .i64 ((xs[i]'(by have := hx.n; omega)).no), .int .i64 ((xs[i]'(by have := hx.n; omega)).a), .int .i64 ((xs[i]'(by have := hx.n; omega)).b)]⟩] [0, 3, 14] ⟨[(0, .slice (some ⟨b5, o6, none⟩) x.n x.c), (3, .int .i64 (i : Int)), (14, .agg #[.int .i64 ((xs[i]'(by have := hx.n; omega)).no), .int .i64 ((xs[i]'(by have := hx.n; omega)).a), .int .i64 ((xs[i]'(by have := hx.n; omega)).b)])], []⟩ [b5, o6 + i * 3] [.lt (i : Int) x.n] (by kernel_rfl) (by kernel_rfl) (ROS_cons hro8 ROS_nil) (by simp only [Conds, Cond.holds, and_true]; omega) ?_
    refine RV_new (c := 1) TOK [0, 3, 4, 14] (fun b9 => ⟨[(0, .slice (some ⟨b5, o6, none⟩) x.n x.c), (3, .int .i64 (i : Int)), (4, .pointer (some ⟨b9, 0, none⟩)), (14, .agg #[.int .i64 ((xs[i]'(by have := hx.n; omega)).no), .int .i64 ((xs[i]'(by have := hx.n; omega)).a), .int .i64 ((xs[i]'(by have := hx.n; omega)).b)])], [⟨b9, 36, [.int .i64 0, .int .i64 0, .int .i64 0]⟩]⟩) (fun _ => by kernel_rfl) (fun b9 => ?_)
    refine RV_go (hs := [0]) (c' := 0) (k' := 6) TOK [0, 3, 4] ⟨[(0, .slice (some ⟨b5, o6, none⟩) x.n x.c), (3, .int .i64 (i : Int)), (4, .pointer (some ⟨b9, 0, none⟩))], [⟨b9, 36, [.int .i64 ((xs[i]'(by have := hx.n; omega)).no), .int .i64 ((xs[i]'(by have := hx.n; omega)).a), .int .i64 ((xs[i]'(by have := hx.n; omega)).b)]⟩]⟩ [b9] (by kernel_rfl) (by kernel_rfl) ?_
    refine RV_end ?_
    refine KE_then ?_
    refine VC_seq ?_
    refine VC_region 28 rfl ?_
    refine RV_go (hs := [0, 0, 0, 0]) (c' := 24) (k' := 4) TOK [0, 3, 4, 18] ⟨[(0, .slice (some ⟨b5, o6, none⟩) x.n x.c), (3, .int .i64 (i : Int)), (4, .pointer (some ⟨b9, 0, none⟩)), (18, .bool (decide (((xs[i]'(by have := hx.n; omega)).no) < 0)))], [⟨b9, 36, [.int .i64 ((xs[i]'(by have := hx.n; omega)).no), .int .i64 ((xs[i]'(by have := hx.n; omega)).a), .int .i64 ((xs[i]'(by have := hx.n; omega)).b)]⟩]⟩ [b9] (by kernel_rfl) (by kernel_rfl) ?_
    refine RV_case (decide (((xs[i]'(by have := hx.n; omega)).no) < 0)) (fun bb => ⟨[(0, .slice (some ⟨b5, o6, none⟩) x.n x.c), (3, .int .i64 (i : Int)), (4, .pointer (some ⟨b9, 0, none⟩)), (18, .bool bb)], [⟨b9, 36, [.int .i64 ((xs[i]'(by have := hx.n; omega)).no), .int .i64 ((xs[i]'(by have := hx.n; omega)).a), .int .i64 ((xs[i]'(by have := hx.n; omega)).b)]⟩]⟩) (by kernel_rfl) (fun h10 => ?_) (fun h10 => ?_)
    · skip
      replace h10 := of_decide_eq_true h10
      refine RV_go (hs := [0, 0, 0, 0, 0, 0, 0, 0, 0, 0, 0, 0, 0, 0, 0, 0, 0, 0, 0, 0, 0, 0, 0, 0]) (c' := 0) (k' := 28) TOK [0, 3, 42] ⟨[(0, .slice (some ⟨b5, o6, none⟩) x.n x.c), (3, .int .i64 (i : Int)), (42, .bool true)], [⟨b9, 36, [.int .i64 ((xs[i]'(by have := hx.n; omega)).no), .int .i64 ((xs[i]'(by have := hx.n; omega)).a), .int .i64 ((xs[i]'(by have := hx.n; omega)).b)]⟩]⟩ [] (by kernel_rfl) (by kernel_rfl) ?_
      refine RV_end ?_
      refine KE_then ?_
      refine VC_true (by kernel_rfl) ?_
      refine VC_go (hs := [0]) TOK [0, 2, 3] ⟨[(0, .slice (some ⟨b5, o6, none⟩) x.n x.c), (2, .bool false), (3, .int .i64 (i : Int))], [⟨b9, 36, [.int .i64 ((xs[i]'(by have := hx.n; omega)).no), .int .i64 ((xs[i]'(by have := hx.n; omega)).a), .int .i64 ((xs[i]'(by have := hx.n; omega)).b)]⟩]⟩ [] (by kernel_rfl) (by kernel_rfl) ?_
      refine VC_ret (ls := []) TOK [] 1 false [] [.bool false] [] ([]) rfl (by kernel_rfl) (by kernel_rfl) (fun w9 hx9 => ?_)
      show (.bool false : Value) = .bool (decide (∀ c ∈ xs, Wr c))
      first
        | exact congrArg Value.bool (decide_eq_false (wr_at (i := i) (by omega) (by simp only [Wr, Rg]; omega))).symm
        | exact congrArg Value.bool (decide_eq_true (wr_all (i := i) (by omega) hw)).symm
    · skip
      replace h10 := of_decide_eq_false h10
      refine RV_go (hs := [0, 0, 0, 0, 0]) (c' := 19) (k' := 9) TOK [0, 3, 4, 23] ⟨[(0, .slice (some ⟨b5, o6, none⟩) x.n x.c), (3, .int .i64 (i : Int)), (4, .pointer (some ⟨b9, 0, none⟩)), (23, .bool (decide (((xs[i]'(by have := hx.n; omega)).no) > 9)))], [⟨b9, 36, [.int .i64 ((xs[i]'(by have := hx.n; omega)).no), .int .i64 ((xs[i]'(by have := hx.n; omega)).a), .int .i64 ((xs[i]'(by have := hx.n; omega)).b)]⟩]⟩ [b9] (by kernel_rfl) (by kernel_rfl) ?_
      refine RV_case (decide (((xs[i]'(by have := hx.n; omega)).no) > 9)) (fun bb => ⟨[(0, .slice (some ⟨b5, o6, none⟩) x.n x.c), (3, .int .i64 (i : Int)), (4, .pointer (some ⟨b9, 0, none⟩)), (23, .bool bb)], [⟨b9, 36, [.int .i64 ((xs[i]'(by have := hx.n; omega)).no), .int .i64 ((xs[i]'(by have := hx.n; omega)).a), .int .i64 ((xs[i]'(by have := hx.n; omega)).b)]⟩]⟩) (by kernel_rfl) (fun h11 => ?_) (fun h11 => ?_)
      · skip
        replace h11 := of_decide_eq_true h11
        refine RV_go (hs := [0, 0, 0, 0, 0, 0, 0, 0, 0, 0, 0, 0, 0, 0, 0, 0, 0, 0, 0]) (c' := 0) (k' := 28) TOK [0, 3, 42] ⟨[(0, .slice (some ⟨b5, o6, none⟩) x.n x.c), (3, .int .i64 (i : Int)), (42, .bool true)], [⟨b9, 36, [.int .i64 ((xs[i]'(by have := hx.n; omega)).no), .int .i64 ((xs[i]'(by have := hx.n; omega)).a), .int .i64 ((xs[i]'(by have := hx.n; omega)).b)]⟩]⟩ [] (by kernel_rfl) (by kernel_rfl) ?_
        refine RV_end ?_
        refine KE_then ?_
        refine VC_true (by kernel_rfl) ?_
        refine VC_go (hs := [0]) TOK [0, 2, 3] ⟨[(0, .slice (some ⟨b5, o6, none⟩) x.n x.c), (2, .bool false), (3, .int .i64 (i : Int))], [⟨b9, 36, [.int .i64 ((xs[i]'(by have := hx.n; omega)).no), .int .i64 ((xs[i]'(by have := hx.n; omega)).a), .int .i64 ((xs[i]'(by have := hx.n; omega)).b)]⟩]⟩ [] (by kernel_rfl) (by kernel_rfl) ?_
        refine VC_ret (ls := []) TOK [] 1 false [] [.bool false] [] ([]) rfl (by kernel_rfl) (by kernel_rfl) (fun w9 hx9 => ?_)
        show (.bool false : Value) = .bool (decide (∀ c ∈ xs, Wr c))
        first
          | exact congrArg Value.bool (decide_eq_false (wr_at (i := i) (by omega) (by simp only [Wr, Rg]; omega))).symm
          | exact congrArg Value.bool (decide_eq_true (wr_all (i := i) (by omega) hw)).symm
      · skip
        replace h11 := of_decide_eq_false h11
        refine RV_go (hs := [0, 0, 0, 0, 0]) (c' := 14) (k' := 14) TOK [0, 3, 4, 28] ⟨[(0, .slice (some ⟨b5, o6, none⟩) x.n x.c), (3, .int .i64 (i : Int)), (4, .pointer (some ⟨b9, 0, none⟩)), (28, .bool (decide (((xs[i]'(by have := hx.n; omega)).a) < (-4611686018427387904))))], [⟨b9, 36, [.int .i64 ((xs[i]'(by have := hx.n; omega)).no), .int .i64 ((xs[i]'(by have := hx.n; omega)).a), .int .i64 ((xs[i]'(by have := hx.n; omega)).b)]⟩]⟩ [b9] (by kernel_rfl) (by kernel_rfl) ?_
        refine RV_case (decide (((xs[i]'(by have := hx.n; omega)).a) < (-4611686018427387904))) (fun bb => ⟨[(0, .slice (some ⟨b5, o6, none⟩) x.n x.c), (3, .int .i64 (i : Int)), (4, .pointer (some ⟨b9, 0, none⟩)), (28, .bool bb)], [⟨b9, 36, [.int .i64 ((xs[i]'(by have := hx.n; omega)).no), .int .i64 ((xs[i]'(by have := hx.n; omega)).a), .int .i64 ((xs[i]'(by have := hx.n; omega)).b)]⟩]⟩) (by kernel_rfl) (fun h12 => ?_) (fun h12 => ?_)
        · skip
          replace h12 := of_decide_eq_true h12
          refine RV_go (hs := [0, 0, 0, 0, 0, 0, 0, 0, 0, 0, 0, 0, 0, 0]) (c' := 0) (k' := 28) TOK [0, 3, 42] ⟨[(0, .slice (some ⟨b5, o6, none⟩) x.n x.c), (3, .int .i64 (i : Int)), (42, .bool true)], [⟨b9, 36, [.int .i64 ((xs[i]'(by have := hx.n; omega)).no), .int .i64 ((xs[i]'(by have := hx.n; omega)).a), .int .i64 ((xs[i]'(by have := hx.n; omega)).b)]⟩]⟩ [] (by kernel_rfl) (by kernel_rfl) ?_
          refine RV_end ?_
          refine KE_then ?_
          refine VC_true (by kernel_rfl) ?_
          refine VC_go (hs := [0]) TOK [0, 2, 3] ⟨[(0, .slice (some ⟨b5, o6, none⟩) x.n x.c), (2, .bool false), (3, .int .i64 (i : Int))], [⟨b9, 36, [.int .i64 ((xs[i]'(by have := hx.n; omega)).no), .int .i64 ((xs[i]'(by have := hx.n; omega)).a), .int .i64 ((xs[i]'(by have := hx.n; omega)).b)]⟩]⟩ [] (by kernel_rfl) (by kernel_rfl) ?_
          refine VC_ret (ls := []) TOK [] 1 false [] [.bool false] [] ([]) rfl (by kernel_rfl) (by kernel_rfl) (fun w9 hx9 => ?_)
          show (.bool false : Value) = .bool (decide (∀ c ∈ xs, Wr c))
          first
            | exact congrArg Value.bool (decide_eq_false (wr_at (i := i) (by omega) (by simp only [Wr, Rg]; omega))).symm
            | exact congrArg Value.bool (decide_eq_true (wr_all (i := i) (by omega) hw)).symm
        · skip
          replace h12 := of_decide_eq_false h12
          refine RV_go (hs := [0, 0, 0, 0, 0]) (c' := 9) (k' := 19) TOK [0, 3, 4, 33] ⟨[(0, .slice (some ⟨b5, o6, none⟩) x.n x.c), (3, .int .i64 (i : Int)), (4, .pointer (some ⟨b9, 0, none⟩)), (33, .bool (decide (((xs[i]'(by have := hx.n; omega)).a) > 4611686018427387904)))], [⟨b9, 36, [.int .i64 ((xs[i]'(by have := hx.n; omega)).no), .int .i64 ((xs[i]'(by have := hx.n; omega)).a), .int .i64 ((xs[i]'(by have := hx.n; omega)).b)]⟩]⟩ [b9] (by kernel_rfl) (by kernel_rfl) ?_
          refine RV_case (decide (((xs[i]'(by have := hx.n; omega)).a) > 4611686018427387904)) (fun bb => ⟨[(0, .slice (some ⟨b5, o6, none⟩) x.n x.c), (3, .int .i64 (i : Int)), (4, .pointer (some ⟨b9, 0, none⟩)), (33, .bool bb)], [⟨b9, 36, [.int .i64 ((xs[i]'(by have := hx.n; omega)).no), .int .i64 ((xs[i]'(by have := hx.n; omega)).a), .int .i64 ((xs[i]'(by have := hx.n; omega)).b)]⟩]⟩) (by kernel_rfl) (fun h13 => ?_) (fun h13 => ?_)
          · skip
            replace h13 := of_decide_eq_true h13
            refine RV_go (hs := [0, 0, 0, 0, 0, 0, 0, 0, 0]) (c' := 0) (k' := 28) TOK [0, 3, 42] ⟨[(0, .slice (some ⟨b5, o6, none⟩) x.n x.c), (3, .int .i64 (i : Int)), (42, .bool true)], [⟨b9, 36, [.int .i64 ((xs[i]'(by have := hx.n; omega)).no), .int .i64 ((xs[i]'(by have := hx.n; omega)).a), .int .i64 ((xs[i]'(by have := hx.n; omega)).b)]⟩]⟩ [] (by kernel_rfl) (by kernel_rfl) ?_
            refine RV_end ?_
            refine KE_then ?_
            refine VC_true (by kernel_rfl) ?_
            refine VC_go (hs := [0]) TOK [0, 2, 3] ⟨[(0, .slice (some ⟨b5, o6, none⟩) x.n x.c), (2, .bool false), (3, .int .i64 (i : Int))], [⟨b9, 36, [.int .i64 ((xs[i]'(by have := hx.n; omega)).no), .int .i64 ((xs[i]'(by have := hx.n; omega)).a), .int .i64 ((xs[i]'(by have := hx.n; omega)).b)]⟩]⟩ [] (by kernel_rfl) (by kernel_rfl) ?_
            refine VC_ret (ls := []) TOK [] 1 false [] [.bool false] [] ([]) rfl (by kernel_rfl) (by kernel_rfl) (fun w9 hx9 => ?_)
            show (.bool false : Value) = .bool (decide (∀ c ∈ xs, Wr c))
            first
              | exact congrArg Value.bool (decide_eq_false (wr_at (i := i) (by omega) (by simp only [Wr, Rg]; omega))).symm
              | exact congrArg Value.bool (decide_eq_true (wr_all (i := i) (by omega) hw)).symm
          · skip
            replace h13 := of_decide_eq_false h13
            refine RV_go (hs := [0, 0, 0, 0, 0]) (c' := 4) (k' := 24) TOK [0, 3, 4, 38] ⟨[(0, .slice (some ⟨b5, o6, none⟩) x.n x.c), (3, .int .i64 (i : Int)), (4, .pointer (some ⟨b9, 0, none⟩)), (38, .bool (decide (((xs[i]'(by have := hx.n; omega)).b) < (-4611686018427387904))))], [⟨b9, 36, [.int .i64 ((xs[i]'(by have := hx.n; omega)).no), .int .i64 ((xs[i]'(by have := hx.n; omega)).a), .int .i64 ((xs[i]'(by have := hx.n; omega)).b)]⟩]⟩ [b9] (by kernel_rfl) (by kernel_rfl) ?_
            refine RV_case (decide (((xs[i]'(by have := hx.n; omega)).b) < (-4611686018427387904))) (fun bb => ⟨[(0, .slice (some ⟨b5, o6, none⟩) x.n x.c), (3, .int .i64 (i : Int)), (4, .pointer (some ⟨b9, 0, none⟩)), (38, .bool bb)], [⟨b9, 36, [.int .i64 ((xs[i]'(by have := hx.n; omega)).no), .int .i64 ((xs[i]'(by have := hx.n; omega)).a), .int .i64 ((xs[i]'(by have := hx.n; omega)).b)]⟩]⟩) (by kernel_rfl) (fun h14 => ?_) (fun h14 => ?_)
            · skip
              replace h14 := of_decide_eq_true h14
              refine RV_go (hs := [0, 0, 0, 0]) (c' := 0) (k' := 28) TOK [0, 3, 42] ⟨[(0, .slice (some ⟨b5, o6, none⟩) x.n x.c), (3, .int .i64 (i : Int)), (42, .bool true)], [⟨b9, 36, [.int .i64 ((xs[i]'(by have := hx.n; omega)).no), .int .i64 ((xs[i]'(by have := hx.n; omega)).a), .int .i64 ((xs[i]'(by have := hx.n; omega)).b)]⟩]⟩ [] (by kernel_rfl) (by kernel_rfl) ?_
              refine RV_end ?_
              refine KE_then ?_
              refine VC_true (by kernel_rfl) ?_
              refine VC_go (hs := [0]) TOK [0, 2, 3] ⟨[(0, .slice (some ⟨b5, o6, none⟩) x.n x.c), (2, .bool false), (3, .int .i64 (i : Int))], [⟨b9, 36, [.int .i64 ((xs[i]'(by have := hx.n; omega)).no), .int .i64 ((xs[i]'(by have := hx.n; omega)).a), .int .i64 ((xs[i]'(by have := hx.n; omega)).b)]⟩]⟩ [] (by kernel_rfl) (by kernel_rfl) ?_
              refine VC_ret (ls := []) TOK [] 1 false [] [.bool false] [] ([]) rfl (by kernel_rfl) (by kernel_rfl) (fun w9 hx9 => ?_)
              show (.bool false : Value) = .bool (decide (∀ c ∈ xs, Wr c))
              first
                | exact congrArg Value.bool (decide_eq_false (wr_at (i := i) (by omega) (by simp only [Wr, Rg]; omega))).symm
                | exact congrArg Value.bool (decide_eq_true (wr_all (i := i) (by omega) hw)).symm
            · skip
              replace h14 := of_decide_eq_false h14
              refine RV_go (hs := [0, 0, 0, 0]) (c' := 0) (k' := 28) TOK [0, 3, 42] ⟨[(0, .slice (some ⟨b5, o6, none⟩) x.n x.c), (3, .int .i64 (i : Int)), (42, .bool (decide (((xs[i]'(by have := hx.n; omega)).b) > 4611686018427387904)))], [⟨b9, 36, [.int .i64 ((xs[i]'(by have := hx.n; omega)).no), .int .i64 ((xs[i]'(by have := hx.n; omega)).a), .int .i64 ((xs[i]'(by have := hx.n; omega)).b)]⟩]⟩ [b9] (by kernel_rfl) (by kernel_rfl) ?_
              refine RV_end ?_
              refine KE_then ?_
              refine VC_cond (decide (((xs[i]'(by have := hx.n; omega)).b) > 4611686018427387904)) (by kernel_rfl) (fun h15 => ?_) (fun h15 => ?_)
              · skip
                replace h15 := of_decide_eq_true h15
                refine VC_go (hs := [0]) TOK [0, 2, 3] ⟨[(0, .slice (some ⟨b5, o6, none⟩) x.n x.c), (2, .bool false), (3, .int .i64 (i : Int))], [⟨b9, 36, [.int .i64 ((xs[i]'(by have := hx.n; omega)).no), .int .i64 ((xs[i]'(by have := hx.n; omega)).a), .int .i64 ((xs[i]'(by have := hx.n; omega)).b)]⟩]⟩ [] (by kernel_rfl) (by kernel_rfl) ?_
                refine VC_ret (ls := []) TOK [] 1 false [] [.bool false] [] ([]) rfl (by kernel_rfl) (by kernel_rfl) (fun w9 hx9 => ?_)
                show (.bool false : Value) = .bool (decide (∀ c ∈ xs, Wr c))
                first
                  | exact congrArg Value.bool (decide_eq_false (wr_at (i := i) (by omega) (by simp only [Wr, Rg]; omega))).symm
                  | exact congrArg Value.bool (decide_eq_true (wr_all (i := i) (by omega) hw)).symm
              · skip
                replace h15 := of_decide_eq_false h15
                refine VC_skip ?_
                refine KE_block ?_
                refine KE_then ?_
                refine VC_region 3 rfl ?_
                refine RV_go (hs := [0, 0]) (c' := 1) (k' := 2) TOK [0, 3, 10] ⟨[(0, .slice (some ⟨b5, o6, none⟩) x.n x.c), (3, .int .i64 (i : Int)), (10, .int .i64 (IntKind.i64.wrap ((i : Int) + 1)))], [⟨b9, 36, [.int .i64 ((xs[i]'(by have := hx.n; omega)).no), .int .i64 ((xs[i]'(by have := hx.n; omega)).a), .int .i64 ((xs[i]'(by have := hx.n; omega)).b)]⟩]⟩ [] (by kernel_rfl) (by kernel_rfl) ?_
                refine RV_st ⟨[(0, .slice (some ⟨b5, o6, none⟩) x.n x.c), (3, .int .i64 (i : Int)), (10, .int .i64 ((i : Int) + 1))], [⟨b9, 36, [.int .i64 ((xs[i]'(by have := hx.n; omega)).no), .int .i64 ((xs[i]'(by have := hx.n; omega)).a), .int .i64 ((xs[i]'(by have := hx.n; omega)).b)]⟩]⟩ (by rw [wrap_id (x := (i : Int) + 1) (by unfold InR; omega)]) ?_
                refine RV_go (hs := [0]) (c' := 0) (k' := 3) TOK [0, 3] ⟨[(0, .slice (some ⟨b5, o6, none⟩) x.n x.c), (3, .int .i64 ((i : Int) + 1))], [⟨b9, 36, [.int .i64 ((xs[i]'(by have := hx.n; omega)).no), .int .i64 ((xs[i]'(by have := hx.n; omega)).a), .int .i64 ((xs[i]'(by have := hx.n; omega)).b)]⟩]⟩ [] (by kernel_rfl) (by kernel_rfl) ?_
                refine RV_end ?_
                refine KE_st ⟨[(0, .slice x.a x.n x.c), (3, .int .i64 ((i : Int) + 1))], [⟨b9, 36, [.int .i64 ((xs[i]'(by have := hx.n; omega)).no), .int .i64 ((xs[i]'(by have := hx.n; omega)).a), .int .i64 ((xs[i]'(by have := hx.n; omega)).b)]⟩]⟩ (by simp only [ha7]) ?_
                refine KE_rnd (x.n - (i + 1)) [0, 3] [] 1 ⟨[(0, .slice x.a x.n x.c), (3, .int .i64 (((i + 1) : Nat) : Int))], []⟩ (by kernel_rfl) (by kernel_rfl) (by omega) ⟨(i + 1), (by omega), (by exact wr_next (by omega) hw (by simp only [Wr, Rg]; omega)), rfl, hx3, rfl⟩
  · skip
    replace h4 := of_decide_eq_false h4
    refine VC_exit ?_
    refine KE_exit_then ?_
    refine KE_exit_then ?_
    refine KE_exit_here ?_
    refine KE_then ?_
    refine VC_go (hs := [0]) TOK [2] ⟨[(2, .bool true)], []⟩ [] (by kernel_rfl) (by kernel_rfl) ?_
    refine VC_ret (ls := []) TOK [] 0 false [] [.bool true] [] ([]) rfl (by kernel_rfl) (by kernel_rfl) (fun w9 hx9 => ?_)
    show (.bool true : Value) = .bool (decide (∀ c ∈ xs, Wr c))
    first
      | exact congrArg Value.bool (decide_eq_false (wr_at (i := i) (by omega) (by simp only [Wr, Rg]; omega))).symm
      | exact congrArg Value.bool (decide_eq_true (wr_all (i := i) (by omega) hw)).symm

theorem f10 (l : List UInt8) (S : Nat → Prop) (w : World) (hP : Pre S w []) (hl : l.length ≤ 1000000) :
    Calls Tryd.prog 10 #[.string (B l)] w (Ret S w [] fun v_ ls_ S_ w_ => ParseR l S_ w_ v_) := by
  refine Calls_of_VC (ls := []) ⟨[(0, .string (B l))], []⟩ Tryd.func10 rfl (by kernel_rfl) (by kernel_rfl) hP ?_
  refine VC_go (hs := [0, 0, 0]) TOK [0, 2, 3, 4] ⟨[(0, .string (B l)), (2, .slice none 0 0), (3, .int .i64 0), (4, .int .i64 0)], []⟩ [] (by kernel_rfl) (by kernel_rfl) ?_
  refine VC_go (hs := [0]) TOK [0, 2, 3, 4, 5] ⟨[(0, .string (B l)), (2, .slice none 0 0), (3, .int .i64 0), (4, .int .i64 0), (5, .slice none 0 0)], []⟩ [] (by kernel_rfl) (by kernel_rfl) ?_
  refine VC_go (hs := [0]) TOK [0, 2, 3, 4, 5, 6] ⟨[(0, .string (B l)), (2, .slice none 0 0), (3, .int .i64 0), (4, .int .i64 0), (5, .slice none 0 0), (6, .int .i64 0)], []⟩ [] (by kernel_rfl) (by kernel_rfl) ?_
  refine VC_seq ?_
  refine VC_block ?_
  refine VC_keep [0, 5, 6] [] 0 ⟨[(0, .string (B l)), (5, .slice none 0 0), (6, .int .i64 (0 : Int))], []⟩ (by kernel_rfl) (by kernel_rfl) ?_
  refine VC_loop (J := fun m_ S' w' st_ => ∃ (p : Nat) (cs : List Sc) (ra : Option Addr) (rc : Nat) (tl : List LB), (p ≤ l.length) ∧ (cs.length ≤ p) ∧ (∀ c ∈ cs, Wr c) ∧ (l.take p = printL cs) ∧ (RowOK 36 3 ⟨ra, cs.length, rc⟩ (cellsC cs) tl) ∧ m_ = l.length - p ∧ Ext S w S' w' ∧ st_ = ⟨[(0, .string (B l)), (5, .slice ra cs.length rc), (6, .int .i64 (p : Int))], tl⟩) (l.length - 0) ⟨0, [], none, 0, [], (by exact Nat.zero_le _), (by exact Nat.le_refl _), (by simp), (by rfl), (by exact RowOK.nil 36 3), rfl, Ext.refl _ _, rfl⟩ ?_
  rintro _ S1 w2 _ ⟨p, cs, ra, rc, tl, hpl, hcp, hwr, heq, hrow, rfl, hx3, rfl⟩
  -- a round
  refine VC_seq ?_
  refine VC_go (hs := [0, 0, 0, 0]) TOK [0, 5, 6, 12] ⟨[(0, .string (B l)), (5, .slice ra cs.length rc), (6, .int .i64 (p : Int)), (12, .bool (decide ((p : Int) < (l.length : Int))))], tl⟩ [] (by kernel_rfl) (by kernel_rfl) ?_
  refine VC_cond (decide ((p : Int) < (l.length : Int))) (by kernel_rfl) (fun h4 => ?_) (fun h4 => ?_)
  · skip
    replace h4 := of_decide_eq_true h4
    refine VC_skip ?_
    refine KE_then ?_
    refine VC_block ?_
    refine VC_seq ?_
    refine VC_region 9 rfl ?_
    refine RV_go (hs := [0, 0]) (c' := 7) (k' := 2) TOK [0, 5, 6, 14, 15] ⟨[(0, .string (B l)), (5, .slice ra cs.length rc), (6, .int .i64 (p : Int)), (14, .string (B l)), (15, .int .i64 (p : Int))], tl⟩ [] (by kernel_rfl) (by kernel_rfl) ?_
    refine RV_call (c := 6) (f := 20) (vs := [.string (B l), .int .i64 (p : Int)]) (dst := (some 16)) (by kernel_rfl) E20 (fun wa hxe hp => f20 l p _ wa hp hpl hl) ?_
    rintro S8 w9 v10 _ hx11 ⟨c5, r6, rfl, ho7⟩
    refine RV_go (hs := [0, 0, 0]) (c' := 3) (k' := 6) TOK [0, 5, 6, 17, 18] ⟨[(0, .string (B l)), (5, .slice ra cs.length rc), (6, .int .i64 (p : Int)), (17, .agg #[.int .i64 c5.no, .int .i64 c5.a, .int .i64 c5.b]), (18, .int .i64 r6)], tl⟩ [] (by kernel_rfl) (by kernel_rfl) ?_
    refine RV_new (c := 2) TOK [0, 5, 6, 7, 17, 18] (fun b12 => ⟨[(0, .string (B l)), (5, .slice ra cs.length rc), (6, .int .i64 (p : Int)), (7, .pointer (some ⟨b12, 0, none⟩)), (17, .agg #[.int .i64 c5.no, .int .i64 c5.a, .int .i64 c5.b]), (18, .int .i64 r6)], ⟨b12, 36, [.int .i64 0, .int .i64 0, .int .i64 0]⟩ :: tl⟩) (fun _ => by kernel_rfl) (fun b12 => ?_)
    refine RV_go (hs := [0, 0]) (c' := 0) (k' := 9) TOK [0, 5, 6, 7, 8] ⟨[(0, .string (B l)), (5, .slice ra cs.length rc), (6, .int .i64 (p : Int)), (7, .pointer (some ⟨b12, 0, none⟩)), (8, .int .i64 r6)], ⟨b12, 36, [.int .i64 c5.no, .int .i64 c5.a, .int .i64 c5.b]⟩ :: tl⟩ [b12] (by kernel_rfl) (by kernel_rfl) ?_
    refine RV_end ?_
    refine KE_then ?_
    refine VC_seq ?_
    refine VC_go (hs := [0, 0]) TOK [0, 5, 6, 7, 8, 20] ⟨[(0, .string (B l)), (5, .slice ra cs.length rc), (6, .int .i64 (p : Int)), (7, .pointer (some ⟨b12, 0, none⟩)), (8, .int .i64 r6), (20, .bool (decide (r6 < 0)))], ⟨b12, 36, [.int .i64 c5.no, .int .i64 c5.a, .int .i64 c5.b]⟩ :: tl⟩ [] (by kernel_rfl) (by kernel_rfl) ?_
    refine VC_cond (decide (r6 < 0)) (by kernel_rfl) (fun h13 => ?_) (fun h13 => ?_)
    · skip
      replace h13 := of_decide_eq_true h13
      have hng := one_neg ho7 (by omega)
      refine VC_go (hs := [0, 0, 0, 0]) TOK [0, 2, 3, 4, 5, 6, 7, 8] ⟨[(0, .string (B l)), (2, .slice none 0 0), (3, .int .i64 (p : Int)), (4, .int .i64 1), (5, .slice ra cs.length rc), (6, .int .i64 (p : Int)), (7, .pointer (some ⟨b12, 0, none⟩)), (8, .int .i64 r6)], ⟨b12, 36, [.int .i64 c5.no, .int .i64 c5.a, .int .i64 c5.b]⟩ :: tl⟩ [] (by kernel_rfl) (by kernel_rfl) ?_
      refine VC_freeze1 [⟨b12, 36, [.int .i64 c5.no, .int .i64 c5.a, .int .i64 c5.b]⟩] tl rfl hrow (fun _ _ h => by simp [idsOf] at h) (fun S14 w15 hx16 hrsl17 => ?_)
      refine VC_ret (ls := []) TOK [] 1 false [] [.slice none 0 0, .int .i64 (p : Int), .int .i64 1] [] ([]) rfl (by kernel_rfl) (by kernel_rfl) (fun w9 hx9 => ?_)
      show ParseR l S14 w9 (.tuple #[.slice none 0 0, .int .i64 (p : Int), .int .i64 1] : Value)
      obtain ⟨hs1, hs2, hs3⟩ := sp_part heq (by omega) hwr hng
      exact ⟨cs, _, hs1, .inr ⟨hs2, by rw [← hs3]⟩⟩
    · skip
      replace h13 := of_decide_eq_false h13
      obtain ⟨hwc, hdr, hreq⟩ := one_pos ho7 (by omega)
      have hnx := pr_next heq hpl hdr
      refine VC_skip ?_
      refine KE_then ?_
      refine VC_seq ?_
      refine VC_region 5 rfl ?_
      refine RV_go (hs := [0, 0]) (c' := 3) (k' := 2) TOK [0, 5, 6, 8, 22, 23] ⟨[(0, .string (B l)), (5, .slice ra cs.length rc), (6, .int .i64 (p : Int)), (8, .int .i64 r6), (22, .slice ra cs.length rc), (23, .agg #[.int .i64 c5.no, .int .i64 c5.a, .int .i64 c5.b])], ⟨b12, 36, [.int .i64 c5.no, .int .i64 c5.a, .int .i64 c5.b]⟩ :: tl⟩ [b12] (by kernel_rfl) (by kernel_rfl) ?_
      refine RV_new (c := 2) TOK [0, 5, 6, 8, 22, 24] (fun b18 => ⟨[(0, .string (B l)), (5, .slice ra cs.length rc), (6, .int .i64 (p : Int)), (8, .int .i64 r6), (22, .slice ra cs.length rc), (24, .slice (some ⟨b18, 0, none⟩) 1 1)], ⟨b18, 36, [.int .i64 c5.no, .int .i64 c5.a, .int .i64 c5.b]⟩ :: ⟨b12, 36, [.int .i64 c5.no, .int .i64 c5.a, .int .i64 c5.b]⟩ :: tl⟩) (fun _ => by kernel_rfl) (fun b18 => ?_)
      refine RV_append1 (c := 1) (t := 22) (e := 36) (ti := ti36) (v := ⟨ra, cs.length, rc⟩) (x := ⟨(some ⟨b18, 0, none⟩), 1, 1⟩) (dst := some 25) (by' := 24) (xs := cellsC cs) (news := [.int .i64 c5.no, .int .i64 c5.a, .int .i64 c5.b]) TOK [⟨b18, 36, [.int .i64 c5.no, .int .i64 c5.a, .int .i64 c5.b]⟩, ⟨b12, 36, [.int .i64 c5.no, .int .i64 c5.a, .int .i64 c5.b]⟩] tl (by kernel_rfl) rfl (by kernel_rfl) (by kernel_rfl) hrow (fun wa hI => SrcIs.own (k := 1) (ty := 36) hI (by simp) rfl) (by kernel_rfl) (by simp only [maxLen]; omega) (by dsimp only; omega) ?_
      intro ra19 rc20 tl21 hrow22
      refine RV_go (hs := [0]) (c' := 0) (k' := 5) TOK [0, 5, 6, 8] ⟨[(0, .string (B l)), (5, .slice ra19 (cs.length + 1) rc20), (6, .int .i64 (p : Int)), (8, .int .i64 r6)], ⟨b18, 36, [.int .i64 c5.no, .int .i64 c5.a, .int .i64 c5.b]⟩ :: ⟨b12, 36, [.int .i64 c5.no, .int .i64 c5.a, .int .i64 c5.b]⟩ :: tl21⟩ [] (by kernel_rfl) (by kernel_rfl) ?_
      refine RV_end ?_
      refine KE_then ?_
      refine VC_region 2 rfl ?_
      refine RV_go (hs := [0, 0]) (c' := 0) (k' := 2) TOK [0, 5, 6] ⟨[(0, .string (B l)), (5, .slice ra19 (cs.length + 1) rc20), (6, .int .i64 r6)], ⟨b18, 36, [.int .i64 c5.no, .int .i64 c5.a, .int .i64 c5.b]⟩ :: ⟨b12, 36, [.int .i64 c5.no, .int .i64 c5.a, .int .i64 c5.b]⟩ :: tl21⟩ [] (by kernel_rfl) (by kernel_rfl) ?_
      refine RV_end ?_
      refine KE_block ?_
      refine KE_st ⟨[(0, .string (B l)), (5, .slice ra19 ((cs ++ [c5]).length) rc20), (6, .int .i64 ((p + (scL c5).length : Nat) : Int))], ⟨b18, 36, [.int .i64 c5.no, .int .i64 c5.a, .int .i64 c5.b]⟩ :: ⟨b12, 36, [.int .i64 c5.no, .int .i64 c5.a, .int .i64 c5.b]⟩ :: tl21⟩ (by rw [show (cs ++ [c5]).length = cs.length + 1 from by simp, hreq]) ?_
      refine KE_rnd (l.length - (p + (scL c5).length)) [0, 5, 6] [] 2 ⟨[(0, .string (B l)), (5, .slice ra19 ((cs ++ [c5]).length) rc20), (6, .int .i64 (((p + (scL c5).length) : Nat) : Int))], tl21⟩ (by kernel_rfl) (by kernel_rfl) (by have h9 := hnx.2; have h8 := scL_pos c5; omega) ⟨(p + (scL c5).length), (cs ++ [c5]), ra19, rc20, tl21, (by exact hnx.2), (by have := scL_pos c5; simp only [List.length_append, List.length_singleton]; omega), (by exact fun c hc => (List.mem_append.1 hc).elim (hwr c) (fun h => by rw [List.mem_singleton.1 h]; exact hwc)), (by exact hnx.1), (by exact row_next hrow22), rfl, (hx3.trans hx11), rfl⟩
  · skip
    replace h4 := of_decide_eq_false h4
    refine VC_exit ?_
    refine KE_exit_then ?_
    refine KE_exit_then ?_
    refine KE_exit_here ?_
    refine KE_then ?_
    refine VC_go (hs := [0, 0, 0, 0, 0]) TOK [2, 3, 4] ⟨[(2, .slice ra cs.length rc), (3, .int .i64 (p : Int)), (4, .int .i64 0)], tl⟩ [] (by kernel_rfl) (by kernel_rfl) ?_
    refine VC_freeze1 [] tl rfl hrow (fun _ _ h => by simp [idsOf] at h) (fun S23 w24 hx25 hrsl26 => ?_)
    refine VC_ret (ls := []) TOK [] 0 false [] [.slice ra cs.length rc, .int .i64 (p : Int), .int .i64 0] [] ([]) rfl (by kernel_rfl) (by kernel_rfl) (fun w9 hx9 => ?_)
    show ParseR l S23 w9 (.tuple #[.slice ra cs.length rc, .int .i64 (p : Int), .int .i64 0] : Value)
    exact ⟨cs, [], sp_all heq (by omega) hwr, .inl ⟨rfl, ⟨ra, cs.length, rc⟩, by rw [show (p : Int) = (l.length : Int) from by omega], (hrsl26 scE cs rfl rfl (Reads_wr cs hwr)).ext hx9⟩⟩

end Go.YtmfkmoecbnghhaaDoor
