/- Contracts of functions, over the symbolic executor: each comes to what its theorem says. Written by gen.py, a program of this work. -/
import Derived.Test.YtmfkmoecbnghhaaDoorA11
namespace Go.YtmfkmoecbnghhaaDoor
open Go Eng Go.Proofs Law Go.RowKit
set_option linter.unusedVariables false
set_option linter.unusedSimpArgs false

theorem c25 (b : Nat) (p : Value) (ra : Option Addr) (rc : Nat) (bs : List UInt8) (tl : List LB) (S : Nat → Prop) (w : World) (hP : Pre S w (⟨b, 51, [p, .slice ra bs.length rc]⟩ :: tl)) (hrow : RowOK 5 1 ⟨ra, bs.length, rc⟩ (byteCells bs) tl) (h : tl = [] ∨ bs ≠ []) (hln : bs.length ≤ 1000000) :
    Calls Tryd.prog 25 #[.pointer (some ⟨b, 0, none⟩)] w (Ret S w (⟨b, 51, [p, .slice ra bs.length rc]⟩ :: tl) fun v ls S w => v = .string (B bs) ∧ ls = []) := by
  rcases hrow.2 with ⟨h1, rfl⟩ | ⟨g, rest, ha, rfl, hnc, _, _⟩
  · simp only [Sl.mk.injEq] at h1
    obtain ⟨rfl, h2, rfl⟩ := h1
    have : bs = [] := List.eq_nil_of_length_eq_zero h2
    subst this
    exact f25_nil b p S w hP
  · simp only at ha hnc
    subst ha
    rcases h with h | h
    · cases h
    · have hpos : bs.length ≠ 0 := fun e => h (List.eq_nil_of_length_eq_zero e)
      obtain ⟨c, rfl⟩ : ∃ c, rc = c + 1 := ⟨rc - 1, by omega⟩
      exact f25_row b p g c bs rest S w hP h hln
theorem pr_step2 {xs : List Sc} {i : Nat} {c : Sc} (hi : i < xs.length) (hc : xs[i] = c) : printL (xs.take (i + 1)) = printL (xs.take i) ++ (wordL c.no.toNat ++ [32] ++ Lib.itoa c.a ++ [32] ++ Lib.itoa c.b ++ [10]) := by
  rw [pr_step hi hc]
  simp
theorem pr_ne {xs : List Sc} {i : Nat} (hi : i < xs.length) : printL (xs.take (i + 1)) ≠ [] := by
  rw [pr_step hi rfl]
  simp

theorem f14 (x : Sl) (xs : List Sc) (S : Nat → Prop) (w : World) (hP : Pre S w []) (hG : Glob S w) (hx : RSl scE S w x xs) (hw : ∀ c ∈ xs, Wr c) (hb : xs.length ≤ 1000) :
    Calls Tryd.prog 14 #[.slice x.a x.n x.c] w (Ret S w [] fun v_ ls_ S_ w_ => v_ = .string (B (printL xs))) := by
  have hxn := hx.n
  refine Calls_of_VC (ls := []) ⟨[(0, .slice x.a x.n x.c)], []⟩ Tryd.func14 rfl (by kernel_rfl) (by kernel_rfl) hP ?_
  refine VC_go (hs := [0]) TOK [0, 2] ⟨[(0, .slice x.a x.n x.c), (2, .string (B ([] : List UInt8)))], []⟩ [] (by kernel_rfl) (by kernel_rfl) ?_
  refine VC_seq ?_
  refine VC_region 1 rfl ?_
  refine RV_new (c := 0) TOK [0, 2, 3] (fun b1 => ⟨[(0, .slice x.a x.n x.c), (2, .string (B ([] : List UInt8))), (3, .pointer (some ⟨b1, 0, none⟩))], [⟨b1, 51, [.pointer none, .slice none 0 0]⟩]⟩) (fun _ => by kernel_rfl) (fun b1 => ?_)
  refine RV_end ?_
  refine KE_then ?_
  refine VC_seq ?_
  refine VC_region 3 rfl ?_
  refine RV_call (c := 2) (f := 22) (vs := []) (dst := (some 7)) (by kernel_rfl) E22 (fun wa hxe hp => f22 _ wa hp) ?_
  rintro S2 w3 v4 _ hx5 rfl
  have hG := hG.ext hx5
  have hx := hx.ext hx5
  refine RV_new (c := 1) TOK [0, 2, 3, 4, 7] (fun b6 => ⟨[(0, .slice x.a x.n x.c), (2, .string (B ([] : List UInt8))), (3, .pointer (some ⟨b1, 0, none⟩)), (4, .pointer (some ⟨b6, 0, none⟩)), (7, .agg #[.string (B ([115, 101, 110, 100] : List UInt8)), .int .i64 28, .int .i64 8, .bool true, .int .i64 1, .int .i64 0, .int .i64 0, .string (B ([114, 101, 99, 118] : List UInt8)), .int .i64 29, .int .i64 8, .bool false, .int .i64 2, .int .i64 0, .int .i64 0, .string (B ([116, 114, 121] : List UInt8)), .int .i64 10, .int .i64 8, .bool false, .int .i64 2, .int .i64 3, .int .i64 0, .string (B ([112, 117, 116] : List UInt8)), .int .i64 16, .int .i64 65536, .bool true, .int .i64 4, .int .i64 0, .int .i64 5, .string (B ([108, 111, 111, 107] : List UInt8)), .int .i64 17, .int .i64 65536, .bool false, .int .i64 8, .int .i64 7, .int .i64 0, .string (B ([99, 117, 116] : List UInt8)), .int .i64 18, .int .i64 65536, .bool false, .int .i64 6, .int .i64 7, .int .i64 0, .string (B ([115, 101, 116] : List UInt8)), .int .i64 19, .int .i64 16, .bool false, .int .i64 10, .int .i64 0, .int .i64 0, .string (B ([114, 101, 115, 101, 116] : List UInt8)), .int .i64 20, .int .i64 16, .bool false, .int .i64 11, .int .i64 0, .int .i64 0, .string (B ([116, 101, 115, 116] : List UInt8)), .int .i64 21, .int .i64 16, .bool false, .int .i64 12, .int .i64 0, .int .i64 0, .string (B ([121, 105, 101, 108, 100] : List UInt8)), .int .i64 27, .int .i64 0, .bool false, .int .i64 0, .int .i64 0, .int .i64 0])], [⟨b6, 54, [.string (B ([] : List UInt8)), .int .i64 0, .int .i64 0, .bool false, .int .i64 0, .int .i64 0, .int .i64 0, .string (B ([] : List UInt8)), .int .i64 0, .int .i64 0, .bool false, .int .i64 0, .int .i64 0, .int .i64 0, .string (B ([] : List UInt8)), .int .i64 0, .int .i64 0, .bool false, .int .i64 0, .int .i64 0, .int .i64 0, .string (B ([] : List UInt8)), .int .i64 0, .int .i64 0, .bool false, .int .i64 0, .int .i64 0, .int .i64 0, .string (B ([] : List UInt8)), .int .i64 0, .int .i64 0, .bool false, .int .i64 0, .int .i64 0, .int .i64 0, .string (B ([] : List UInt8)), .int .i64 0, .int .i64 0, .bool false, .int .i64 0, .int .i64 0, .int .i64 0, .string (B ([] : List UInt8)), .int .i64 0, .int .i64 0, .bool false, .int .i64 0, .int .i64 0, .int .i64 0, .string (B ([] : List UInt8)), .int .i64 0, .int .i64 0, .bool false, .int .i64 0, .int .i64 0, .int .i64 0, .string (B ([] : List UInt8)), .int .i64 0, .int .i64 0, .bool false, .int .i64 0, .int .i64 0, .int .i64 0, .string (B ([] : List UInt8)), .int .i64 0, .int .i64 0, .bool false, .int .i64 0, .int .i64 0, .int .i64 0]⟩, ⟨b1, 51, [.pointer none, .slice none 0 0]⟩]⟩) (fun _ => by kernel_rfl) (fun b6 => ?_)
  refine RV_go (hs := [0]) (c' := 0) (k' := 3) TOK [0, 2, 3, 4] ⟨[(0, .slice x.a x.n x.c), (2, .string (B ([] : List UInt8))), (3, .pointer (some ⟨b1, 0, none⟩)), (4, .pointer (some ⟨b6, 0, none⟩))], [⟨b6, 54, [.string (B ([115, 101, 110, 100] : List UInt8)), .int .i64 28, .int .i64 8, .bool true, .int .i64 1, .int .i64 0, .int .i64 0, .string (B ([114, 101, 99, 118] : List UInt8)), .int .i64 29, .int .i64 8, .bool false, .int .i64 2, .int .i64 0, .int .i64 0, .string (B ([116, 114, 121] : List UInt8)), .int .i64 10, .int .i64 8, .bool false, .int .i64 2, .int .i64 3, .int .i64 0, .string (B ([112, 117, 116] : List UInt8)), .int .i64 16, .int .i64 65536, .bool true, .int .i64 4, .int .i64 0, .int .i64 5, .string (B ([108, 111, 111, 107] : List UInt8)), .int .i64 17, .int .i64 65536, .bool false, .int .i64 8, .int .i64 7, .int .i64 0, .string (B ([99, 117, 116] : List UInt8)), .int .i64 18, .int .i64 65536, .bool false, .int .i64 6, .int .i64 7, .int .i64 0, .string (B ([115, 101, 116] : List UInt8)), .int .i64 19, .int .i64 16, .bool false, .int .i64 10, .int .i64 0, .int .i64 0, .string (B ([114, 101, 115, 101, 116] : List UInt8)), .int .i64 20, .int .i64 16, .bool false, .int .i64 11, .int .i64 0, .int .i64 0, .string (B ([116, 101, 115, 116] : List UInt8)), .int .i64 21, .int .i64 16, .bool false, .int .i64 12, .int .i64 0, .int .i64 0, .string (B ([121, 105, 101, 108, 100] : List UInt8)), .int .i64 27, .int .i64 0, .bool false, .int .i64 0, .int .i64 0, .int .i64 0]⟩, ⟨b1, 51, [.pointer none, .slice none 0 0]⟩]⟩ [b6] (by kernel_rfl) (by kernel_rfl) ?_
  refine RV_end ?_
  refine KE_then ?_
  refine VC_seq ?_
  refine VC_seq ?_
  refine VC_st ⟨[(0, .slice x.a x.n x.c), (2, .string (B ([] : List UInt8))), (3, .pointer (some ⟨b1, 0, none⟩)), (4, .pointer (some ⟨b6, 0, none⟩))], [⟨b6, 54, kindsC⟩, ⟨b1, 51, [.pointer none, .slice none 0 0]⟩]⟩ (by kernel_rfl) ?_
  refine VC_region 3 rfl ?_
  refine RV_go (hs := [0, 0, 0]) (c' := 0) (k' := 3) TOK [2, 3, 4, 8, 9, 10] ⟨[(2, .string (B ([] : List UInt8))), (3, .pointer (some ⟨b1, 0, none⟩)), (4, .pointer (some ⟨b6, 0, none⟩)), (8, .slice x.a x.n x.c), (9, .int .i64 (x.n : Int)), (10, .int .i64 0)], [⟨b6, 54, kindsC⟩, ⟨b1, 51, [.pointer none, .slice none 0 0]⟩]⟩ [] (by kernel_rfl) (by kernel_rfl) ?_
  refine RV_end ?_
  refine KE_then ?_
  refine VC_block ?_
  refine VC_keep [2, 3, 4, 8, 9, 10] [0, 1] 2 ⟨[(2, .string (B ([] : List UInt8))), (3, .pointer (some ⟨b1, 0, none⟩)), (4, .pointer (some ⟨b6, 0, none⟩)), (8, .slice x.a x.n x.c), (9, .int .i64 (x.n : Int)), (10, .int .i64 (0 : Int))], ⟨b6, 54, kindsC⟩ :: ⟨b1, 51, [(.pointer none), .slice none ((printL (xs.take 0)).length) 0]⟩ :: []⟩ (by kernel_rfl) (by kernel_rfl) ?_
  refine VC_loop (J := fun m_ S' w' st_ => ∃ (i : Nat) (p : Value) (ra : Option Addr) (rc : Nat) (tl : List LB), (i ≤ xs.length) ∧ (p = .pointer none ∨ p = .pointer (some ⟨b1, 0, none⟩)) ∧ (RowOK 5 1 ⟨ra, (printL (xs.take i)).length, rc⟩ (byteCells (printL (xs.take i))) tl) ∧ (tl = [] ∨ printL (xs.take i) ≠ []) ∧ ((printL (xs.take i)).length ≤ 50 * i) ∧ m_ = x.n - i ∧ Ext S2 w3 S' w' ∧ st_ = ⟨[(2, .string (B ([] : List UInt8))), (3, .pointer (some ⟨b1, 0, none⟩)), (4, .pointer (some ⟨b6, 0, none⟩)), (8, .slice x.a x.n x.c), (9, .int .i64 (x.n : Int)), (10, .int .i64 (i : Int))], ⟨b6, 54, kindsC⟩ :: ⟨b1, 51, [p, .slice ra ((printL (xs.take i)).length) rc]⟩ :: tl⟩) (x.n - 0) ⟨0, (.pointer none), none, 0, [], (by exact Nat.zero_le _), (by exact .inl rfl), (by exact RowOK.nil 5 1), (by exact .inl rfl), (by exact Nat.le_refl _), rfl, Ext.refl _ _, rfl⟩ ?_
  rintro _ S7 w8 _ ⟨i, p, ra, rc, tl, hi, hpp, hrow, htl, hpl, rfl, hx9, rfl⟩
  have hG := hG.ext hx9
  have hx := hx.ext hx9
  -- a round
  refine VC_go (hs := [0]) TOK [2, 3, 4, 8, 9, 10, 11] ⟨[(2, .string (B ([] : List UInt8))), (3, .pointer (some ⟨b1, 0, none⟩)), (4, .pointer (some ⟨b6, 0, none⟩)), (8, .slice x.a x.n x.c), (9, .int .i64 (x.n : Int)), (10, .int .i64 (i : Int)), (11, .bool (decide ((i : Int) < (x.n : Int))))], ⟨b6, 54, kindsC⟩ :: ⟨b1, 51, [p, .slice ra ((printL (xs.take i)).length) rc]⟩ :: tl⟩ [] (by kernel_rfl) (by kernel_rfl) ?_
  refine VC_seq ?_
  refine VC_cond (decide ((i : Int) < (x.n : Int))) (by kernel_rfl) (fun h10 => ?_) (fun h10 => ?_)
  · skip
    replace h10 := of_decide_eq_true h10
    refine VC_skip ?_
    refine KE_then ?_
    refine VC_seq ?_
    refine VC_block ?_
    refine VC_seq ?_
    refine VC_region 4 rfl ?_
    obtain ⟨b11, o12, ha13⟩ := hx.addr (Nat.lt_of_le_of_lt (Nat.zero_le i) (by have := hx.n; omega))
    refine RV_st ⟨[(2, .string (B ([] : List UInt8))), (3, .pointer (some ⟨b1, 0, none⟩)), (4, .pointer (some ⟨b6, 0, none⟩)), (8, .slice (some ⟨b11, o12, none⟩) x.n x.c), (9, .int .i64 (x.n : Int)), (10, .int .i64 (i : Int)), (11, .bool (decide ((i : Int) < (x.n : Int))))], ⟨b6, 54, kindsC⟩ :: ⟨b1, 51, [p, .slice ra ((printL (xs.take i)).length) rc]⟩ :: tl⟩ (by simp only [ha13]) ?_
    obtain ⟨vs_, hro14, hrep17⟩ := hx.here ha13 i (by have := hx.n; omega)
    generalize hce16 : (xs[i]'(by have := hx.n; omega)) = c15 at hrep17
    obtain ⟨rfl, hr1, hr2, hr3⟩ := hrep17
    have hwc : Wr c15 := hce16 ▸ hw _ (List.getElem_mem _)
    have hl1 := word_len c15.no.toNat (by have := hwc.1; omega)
    have hl2 := itoa_len hr2
    have hl3 := itoa_len hr3
    have hl4 := take_len hw (i := i) (by omega)
    refine RV_run (hs := [0, 1000]) (c' := 2) (k' := 2) TOK [⟨b11, o12 + i * 3, [.int .i64 c15.no, .int .i64 c15.a, .int .i64 c15.b]⟩] [2, 3, 4, 8, 9, 10, 13] ⟨[(2, .string (B ([] : List UInt8))), (3, .pointer (some ⟨b1, 0, none⟩)), (4, .pointer (some ⟨b6, 0, none⟩)), (8, .slice (some ⟨b11, o12, none⟩) x.n x.c), (9, .int .i64 (x.n : Int)), (10, .int .i64 (i : Int)), (13, .agg #[.int .i64 c15.no, .int .i64 c15.a, .int .i64 c15.b])], ⟨b6, 54, kindsC⟩ :: ⟨b1, 51, [p, .slice ra ((printL (xs.take i)).length) rc]⟩ :: tl⟩ [b11, o12 + i * 3] [.lt (i : Int) x.n] (by kernel_rfl) (by kernel_rfl) (ROS_cons hro14 ROS_nil) (by simp only [Conds, Cond.holds, and_true]; (first | omega | (have h9 := hwc.1; omega) | (have h9 := hwc.1; simp only [List.length_append, List.length_cons, List.length_nil] <;> omega))) ?_
    refine RV_new (c := 1) TOK [2, 3, 4, 6, 8, 9, 10, 13] (fun b18 => ⟨[(2, .string (B ([] : List UInt8))), (3, .pointer (some ⟨b1, 0, none⟩)), (4, .pointer (some ⟨b6, 0, none⟩)), (6, .pointer (some ⟨b18, 0, none⟩)), (8, .slice (some ⟨b11, o12, none⟩) x.n x.c), (9, .int .i64 (x.n : Int)), (10, .int .i64 (i : Int)), (13, .agg #[.int .i64 c15.no, .int .i64 c15.a, .int .i64 c15.b])], ⟨b18, 36, [.int .i64 0, .int .i64 0, .int .i64 0]⟩ :: ⟨b6, 54, kindsC⟩ :: ⟨b1, 51, [p, .slice ra ((printL (xs.take i)).length) rc]⟩ :: tl⟩) (fun _ => by kernel_rfl) (fun b18 => ?_)
    refine RV_go (hs := [0]) (c' := 0) (k' := 4) TOK [2, 3, 4, 6, 8, 9, 10] ⟨[(2, .string (B ([] : List UInt8))), (3, .pointer (some ⟨b1, 0, none⟩)), (4, .pointer (some ⟨b6, 0, none⟩)), (6, .pointer (some ⟨b18, 0, none⟩)), (8, .slice (some ⟨b11, o12, none⟩) x.n x.c), (9, .int .i64 (x.n : Int)), (10, .int .i64 (i : Int))], ⟨b18, 36, [.int .i64 c15.no, .int .i64 c15.a, .int .i64 c15.b]⟩ :: ⟨b6, 54, kindsC⟩ :: ⟨b1, 51, [p, .slice ra ((printL (xs.take i)).length) rc]⟩ :: tl⟩ [b18] (by kernel_rfl) (by kernel_rfl) ?_
    refine RV_end ?_
    refine KE_then ?_
    have hx_0 := hx
    refine VC_draw MIX [⟨b18, 36, [.int .i64 c15.no, .int .i64 c15.a, .int .i64 c15.b]⟩, ⟨b6, 54, kindsC⟩] 17 rfl ?_
    refine RVd_take (fuel' := 11) TOK [⟨b11, o12 + i * 3, [.int .i64 c15.no, .int .i64 c15.a, .int .i64 c15.b]⟩, ⟨b6, 0 + c15.no.toNat * 7, [.string (B (wordL c15.no.toNat)), kindC c15.no.toNat 1, kindC c15.no.toNat 2, kindC c15.no.toNat 3, kindC c15.no.toNat 4, kindC c15.no.toNat 5, kindC c15.no.toNat 6]⟩] [(0, 0), (1, 0), (2, 0), (3, 0), (4, 1100), (5, 0)] [2, 3, 4, 6, 8, 9, 10, 19] [0, 1] #[true, true, true, true, true, true, false, false, false, false, false, false, false, false, false, false, false] [(2, .string (B ([] : List UInt8))), (3, .pointer (some ⟨b1, 0, none⟩)), (4, .pointer (some ⟨b6, 0, none⟩)), (6, .pointer (some ⟨b18, 0, none⟩)), (8, .slice (some ⟨b11, o12, none⟩) x.n x.c), (9, .int .i64 (x.n : Int)), (10, .int .i64 (i : Int)), (19, .string (B (wordL c15.no.toNat) ++ B ([32] : List UInt8)))] [b18, b6, 0 + c15.no.toNat * 7] [.lt c15.no 10, .sz ((wordL c15.no.toNat).length + ([32] : List UInt8).length)] (by kernel_rfl) (by kernel_rfl) (by kernel_rfl) (by kernel_rfl) (ROL_std hro14 (ROL_own ⟨b6, 54, kindsC⟩ (by simp) (kinds_at c15.no.toNat (by have := hwc.1; omega)) ROL_nil)) (by simp only [Conds, Cond.holds, and_true]; (first | omega | (have h9 := hwc.1; omega) | (have h9 := hwc.1; simp only [List.length_append, List.length_cons, List.length_nil] <;> omega))) ?_
    refine RVd_st ⟨[(2, .string (B ([] : List UInt8))), (3, .pointer (some ⟨b1, 0, none⟩)), (4, .pointer (some ⟨b6, 0, none⟩)), (6, .pointer (some ⟨b18, 0, none⟩)), (8, .slice (some ⟨b11, o12, none⟩) x.n x.c), (9, .int .i64 (x.n : Int)), (10, .int .i64 (i : Int)), (19, .string (B ((wordL c15.no.toNat) ++ ([32] : List UInt8))))], ⟨b18, 36, [.int .i64 c15.no, .int .i64 c15.a, .int .i64 c15.b]⟩ :: ⟨b6, 54, kindsC⟩ :: ⟨b1, 51, [p, .slice ra ((printL (xs.take i)).length) rc]⟩ :: tl⟩ (by rw [B_app (wordL c15.no.toNat) ([32] : List UInt8)]) ?_
    refine RVd_take (fuel' := 7) TOK [] [(6, 0), (7, 0), (11, 0), (12, 0)] [2, 3, 4, 8, 9, 10, 19, 21, 26] [0, 1] #[true, true, true, true, true, true, true, true, false, false, false, true, true, false, false, false, false] [(2, .string (B ([] : List UInt8))), (3, .pointer (some ⟨b1, 0, none⟩)), (4, .pointer (some ⟨b6, 0, none⟩)), (8, .slice (some ⟨b11, o12, none⟩) x.n x.c), (9, .int .i64 (x.n : Int)), (10, .int .i64 (i : Int)), (19, .string (B ((wordL c15.no.toNat) ++ ([32] : List UInt8)))), (21, .int .i64 c15.a), (26, .int .i64 c15.b)] [b18, b18] [] (by kernel_rfl) (by kernel_rfl) (by kernel_rfl) (by kernel_rfl) ROL_nil trivial ?_
    refine RVd_call (fuel := 6) 8 [0, 1] #[true, true, true, true, true, true, true, true, true, false, false, true, true, false, false, false, false] (f := 24) (vs := [.int .i64 c15.a]) (dst := (some 22)) (by kernel_rfl) (by kernel_rfl) (by kernel_rfl) E24 (by kernel_rfl) (fun wa hxe hp => c24 c15.a _ wa hp (hG.ext hxe) hr2) ?_
    rintro S19 w20 v21 _ hx22 rfl
    have hG := hG.ext hx22
    have hx := hx.ext hx22
    refine RVd_take (fuel' := 5) TOK [] [(9, 0)] [2, 3, 4, 8, 9, 10, 23, 26] [0, 1] #[true, true, true, true, true, true, true, true, true, true, false, true, true, false, false, false, false] [(2, .string (B ([] : List UInt8))), (3, .pointer (some ⟨b1, 0, none⟩)), (4, .pointer (some ⟨b6, 0, none⟩)), (8, .slice (some ⟨b11, o12, none⟩) x.n x.c), (9, .int .i64 (x.n : Int)), (10, .int .i64 (i : Int)), (23, .string (B ((wordL c15.no.toNat) ++ ([32] : List UInt8)) ++ B (Lib.itoa c15.a))), (26, .int .i64 c15.b)] [] [.sz (((wordL c15.no.toNat) ++ ([32] : List UInt8)).length + (Lib.itoa c15.a).length)] (by kernel_rfl) (by kernel_rfl) (by kernel_rfl) (by kernel_rfl) ROL_nil (by simp only [Conds, Cond.holds, and_true]; (first | omega | (have h9 := hwc.1; omega) | (have h9 := hwc.1; simp only [List.length_append, List.length_cons, List.length_nil] <;> omega))) ?_
    refine RVd_st ⟨[(2, .string (B ([] : List UInt8))), (3, .pointer (some ⟨b1, 0, none⟩)), (4, .pointer (some ⟨b6, 0, none⟩)), (8, .slice (some ⟨b11, o12, none⟩) x.n x.c), (9, .int .i64 (x.n : Int)), (10, .int .i64 (i : Int)), (23, .string (B (((wordL c15.no.toNat) ++ ([32] : List UInt8)) ++ (Lib.itoa c15.a)))), (26, .int .i64 c15.b)], ⟨b18, 36, [.int .i64 c15.no, .int .i64 c15.a, .int .i64 c15.b]⟩ :: ⟨b6, 54, kindsC⟩ :: ⟨b1, 51, [p, .slice ra ((printL (xs.take i)).length) rc]⟩ :: tl⟩ (by rw [B_app ((wordL c15.no.toNat) ++ ([32] : List UInt8)) (Lib.itoa c15.a)]) ?_
    refine RVd_take (fuel' := 4) TOK [] [(10, 0)] [2, 3, 4, 8, 9, 10, 24, 26] [0, 1] #[true, true, true, true, true, true, true, true, true, true, true, true, true, false, false, false, false] [(2, .string (B ([] : List UInt8))), (3, .pointer (some ⟨b1, 0, none⟩)), (4, .pointer (some ⟨b6, 0, none⟩)), (8, .slice (some ⟨b11, o12, none⟩) x.n x.c), (9, .int .i64 (x.n : Int)), (10, .int .i64 (i : Int)), (24, .string (B (((wordL c15.no.toNat) ++ ([32] : List UInt8)) ++ (Lib.itoa c15.a)) ++ B ([32] : List UInt8))), (26, .int .i64 c15.b)] [] [.sz ((((wordL c15.no.toNat) ++ ([32] : List UInt8)) ++ (Lib.itoa c15.a)).length + ([32] : List UInt8).length)] (by kernel_rfl) (by kernel_rfl) (by kernel_rfl) (by kernel_rfl) ROL_nil (by simp only [Conds, Cond.holds, and_true]; (first | omega | (have h9 := hwc.1; omega) | (have h9 := hwc.1; simp only [List.length_append, List.length_cons, List.length_nil] <;> omega))) ?_
    refine RVd_st ⟨[(2, .string (B ([] : List UInt8))), (3, .pointer (some ⟨b1, 0, none⟩)), (4, .pointer (some ⟨b6, 0, none⟩)), (8, .slice (some ⟨b11, o12, none⟩) x.n x.c), (9, .int .i64 (x.n : Int)), (10, .int .i64 (i : Int)), (24, .string (B ((((wordL c15.no.toNat) ++ ([32] : List UInt8)) ++ (Lib.itoa c15.a)) ++ ([32] : List UInt8)))), (26, .int .i64 c15.b)], ⟨b18, 36, [.int .i64 c15.no, .int .i64 c15.a, .int .i64 c15.b]⟩ :: ⟨b6, 54, kindsC⟩ :: ⟨b1, 51, [p, .slice ra ((printL (xs.take i)).length) rc]⟩ :: tl⟩ (by rw [B_app (((wordL c15.no.toNat) ++ ([32] : List UInt8)) ++ (Lib.itoa c15.a)) ([32] : List UInt8)]) ?_
    refine RVd_call (fuel := 3) 13 [0, 1] #[true, true, true, true, true, true, true, true, true, true, true, true, true, true, false, false, false] (f := 24) (vs := [.int .i64 c15.b]) (dst := (some 27)) (by kernel_rfl) (by kernel_rfl) (by kernel_rfl) E24 (by kernel_rfl) (fun wa hxe hp => c24 c15.b _ wa hp (hG.ext hxe) hr3) ?_
    rintro S23 w24 v25 _ hx26 rfl
    have hG := hG.ext hx26
    have hx := hx.ext hx26
    refine RVd_take (fuel' := 2) TOK [] [(14, 0)] [2, 3, 4, 8, 9, 10, 28] [0, 1] #[true, true, true, true, true, true, true, true, true, true, true, true, true, true, true, false, false] [(2, .string (B ([] : List UInt8))), (3, .pointer (some ⟨b1, 0, none⟩)), (4, .pointer (some ⟨b6, 0, none⟩)), (8, .slice (some ⟨b11, o12, none⟩) x.n x.c), (9, .int .i64 (x.n : Int)), (10, .int .i64 (i : Int)), (28, .string (B ((((wordL c15.no.toNat) ++ ([32] : List UInt8)) ++ (Lib.itoa c15.a)) ++ ([32] : List UInt8)) ++ B (Lib.itoa c15.b)))] [] [.sz (((((wordL c15.no.toNat) ++ ([32] : List UInt8)) ++ (Lib.itoa c15.a)) ++ ([32] : List UInt8)).length + (Lib.itoa c15.b).length)] (by kernel_rfl) (by kernel_rfl) (by kernel_rfl) (by kernel_rfl) ROL_nil (by simp only [Conds, Cond.holds, and_true]; (first | omega | (have h9 := hwc.1; omega) | (have h9 := hwc.1; simp only [List.length_append, List.length_cons, List.length_nil] <;> omega))) ?_
    refine RVd_st ⟨[(2, .string (B ([] : List UInt8))), (3, .pointer (some ⟨b1, 0, none⟩)), (4, .pointer (some ⟨b6, 0, none⟩)), (8, .slice (some ⟨b11, o12, none⟩) x.n x.c), (9, .int .i64 (x.n : Int)), (10, .int .i64 (i : Int)), (28, .string (B (((((wordL c15.no.toNat) ++ ([32] : List UInt8)) ++ (Lib.itoa c15.a)) ++ ([32] : List UInt8)) ++ (Lib.itoa c15.b))))], ⟨b18, 36, [.int .i64 c15.no, .int .i64 c15.a, .int .i64 c15.b]⟩ :: ⟨b6, 54, kindsC⟩ :: ⟨b1, 51, [p, .slice ra ((printL (xs.take i)).length) rc]⟩ :: tl⟩ (by rw [B_app ((((wordL c15.no.toNat) ++ ([32] : List UInt8)) ++ (Lib.itoa c15.a)) ++ ([32] : List UInt8)) (Lib.itoa c15.b)]) ?_
    refine RVd_take (fuel' := 1) TOK [] [(15, 0)] [2, 3, 4, 8, 9, 10, 29] [0, 1] #[true, true, true, true, true, true, true, true, true, true, true, true, true, true, true, true, false] [(2, .string (B ([] : List UInt8))), (3, .pointer (some ⟨b1, 0, none⟩)), (4, .pointer (some ⟨b6, 0, none⟩)), (8, .slice (some ⟨b11, o12, none⟩) x.n x.c), (9, .int .i64 (x.n : Int)), (10, .int .i64 (i : Int)), (29, .string (B (((((wordL c15.no.toNat) ++ ([32] : List UInt8)) ++ (Lib.itoa c15.a)) ++ ([32] : List UInt8)) ++ (Lib.itoa c15.b)) ++ B ([10] : List UInt8)))] [] [.sz ((((((wordL c15.no.toNat) ++ ([32] : List UInt8)) ++ (Lib.itoa c15.a)) ++ ([32] : List UInt8)) ++ (Lib.itoa c15.b)).length + ([10] : List UInt8).length)] (by kernel_rfl) (by kernel_rfl) (by kernel_rfl) (by kernel_rfl) ROL_nil (by simp only [Conds, Cond.holds, and_true]; (first | omega | (have h9 := hwc.1; omega) | (have h9 := hwc.1; simp only [List.length_append, List.length_cons, List.length_nil] <;> omega))) ?_
    refine RVd_st ⟨[(2, .string (B ([] : List UInt8))), (3, .pointer (some ⟨b1, 0, none⟩)), (4, .pointer (some ⟨b6, 0, none⟩)), (8, .slice (some ⟨b11, o12, none⟩) x.n x.c), (9, .int .i64 (x.n : Int)), (10, .int .i64 (i : Int)), (29, .string (B ((((((wordL c15.no.toNat) ++ ([32] : List UInt8)) ++ (Lib.itoa c15.a)) ++ ([32] : List UInt8)) ++ (Lib.itoa c15.b)) ++ ([10] : List UInt8))))], ⟨b18, 36, [.int .i64 c15.no, .int .i64 c15.a, .int .i64 c15.b]⟩ :: ⟨b6, 54, kindsC⟩ :: ⟨b1, 51, [p, .slice ra ((printL (xs.take i)).length) rc]⟩ :: tl⟩ (by rw [B_app (((((wordL c15.no.toNat) ++ ([32] : List UInt8)) ++ (Lib.itoa c15.a)) ++ ([32] : List UInt8)) ++ (Lib.itoa c15.b)) ([10] : List UInt8)]) ?_
    refine RVd_swap [⟨b18, 36, [.int .i64 c15.no, .int .i64 c15.a, .int .i64 c15.b]⟩, ⟨b6, 54, kindsC⟩] (⟨b1, 51, [p, .slice ra ((printL (xs.take i)).length) rc]⟩ :: tl) rfl ?_
    refine RVd_callM (fuel := 0) 16 #[true, true, true, true, true, true, true, true, true, true, true, true, true, true, true, true, true] (⟨b1, 51, [p, .slice ra ((printL (xs.take i)).length) rc]⟩ :: tl) [⟨b18, 36, [.int .i64 c15.no, .int .i64 c15.a, .int .i64 c15.b]⟩, ⟨b6, 54, kindsC⟩] (f := 23) (vs := [.pointer (some ⟨b1, 0, none⟩), .string (B ((((((wordL c15.no.toNat) ++ ([32] : List UInt8)) ++ (Lib.itoa c15.a)) ++ ([32] : List UInt8)) ++ (Lib.itoa c15.b)) ++ ([10] : List UInt8)))]) (dst := (some 30)) (by kernel_rfl) (by kernel_rfl) (by kernel_rfl) E23 rfl (fun wa hxe hp => f23 b1 p ra rc (printL (xs.take i)) ((((((wordL c15.no.toNat) ++ ([32] : List UInt8)) ++ (Lib.itoa c15.a)) ++ ([32] : List UInt8)) ++ (Lib.itoa c15.b)) ++ ([10] : List UInt8)) tl _ wa hp hpp hrow (by simp only [List.length_append, List.length_cons, List.length_nil]; omega)) ?_
    rintro S31 w32 v33 _ hx34 ⟨rfl, ra27, rc28, tl29, hrow30, rfl⟩
    refine ⟨fun lb h => by simp only [List.mem_cons, List.mem_append, List.not_mem_nil, or_false, false_or] at h ⊢; simp [h], ?_⟩
    refine RVd_swap (⟨b1, 51, [.pointer (some ⟨b1, 0, none⟩), .slice ra27 (((printL (xs.take i)) ++ ((((((wordL c15.no.toNat) ++ ([32] : List UInt8)) ++ (Lib.itoa c15.a)) ++ ([32] : List UInt8)) ++ (Lib.itoa c15.b)) ++ ([10] : List UInt8))).length) rc28]⟩ :: tl29) [⟨b18, 36, [.int .i64 c15.no, .int .i64 c15.a, .int .i64 c15.b]⟩, ⟨b6, 54, kindsC⟩] rfl ?_
    have hG := hG.ext hx34
    have hx := hx.ext hx34
    refine RVd_end (by kernel_rfl) ?_
    refine KE_block ?_
    refine KE_then ?_
    refine VC_region 2 rfl ?_
    refine RV_go (hs := [0]) (c' := 1) (k' := 1) TOK [2, 3, 4, 8, 9, 10, 31] ⟨[(2, .string (B ([] : List UInt8))), (3, .pointer (some ⟨b1, 0, none⟩)), (4, .pointer (some ⟨b6, 0, none⟩)), (8, .slice (some ⟨b11, o12, none⟩) x.n x.c), (9, .int .i64 (x.n : Int)), (10, .int .i64 (i : Int)), (31, .int .i64 (IntKind.i64.wrap ((i : Int) + 1)))], ⟨b18, 36, [.int .i64 c15.no, .int .i64 c15.a, .int .i64 c15.b]⟩ :: ⟨b6, 54, kindsC⟩ :: ⟨b1, 51, [.pointer (some ⟨b1, 0, none⟩), .slice ra27 (((printL (xs.take i)) ++ ((((((wordL c15.no.toNat) ++ ([32] : List UInt8)) ++ (Lib.itoa c15.a)) ++ ([32] : List UInt8)) ++ (Lib.itoa c15.b)) ++ ([10] : List UInt8))).length) rc28]⟩ :: tl29⟩ [] (by kernel_rfl) (by kernel_rfl) ?_
    refine RV_st ⟨[(2, .string (B ([] : List UInt8))), (3, .pointer (some ⟨b1, 0, none⟩)), (4, .pointer (some ⟨b6, 0, none⟩)), (8, .slice (some ⟨b11, o12, none⟩) x.n x.c), (9, .int .i64 (x.n : Int)), (10, .int .i64 (i : Int)), (31, .int .i64 ((i : Int) + 1))], ⟨b18, 36, [.int .i64 c15.no, .int .i64 c15.a, .int .i64 c15.b]⟩ :: ⟨b6, 54, kindsC⟩ :: ⟨b1, 51, [.pointer (some ⟨b1, 0, none⟩), .slice ra27 (((printL (xs.take i)) ++ ((((((wordL c15.no.toNat) ++ ([32] : List UInt8)) ++ (Lib.itoa c15.a)) ++ ([32] : List UInt8)) ++ (Lib.itoa c15.b)) ++ ([10] : List UInt8))).length) rc28]⟩ :: tl29⟩ (by rw [wrap_id (x := (i : Int) + 1) (by unfold InR; omega)]) ?_
    refine RV_go (hs := [0]) (c' := 0) (k' := 2) TOK [2, 3, 4, 8, 9, 10] ⟨[(2, .string (B ([] : List UInt8))), (3, .pointer (some ⟨b1, 0, none⟩)), (4, .pointer (some ⟨b6, 0, none⟩)), (8, .slice (some ⟨b11, o12, none⟩) x.n x.c), (9, .int .i64 (x.n : Int)), (10, .int .i64 ((i : Int) + 1))], ⟨b18, 36, [.int .i64 c15.no, .int .i64 c15.a, .int .i64 c15.b]⟩ :: ⟨b6, 54, kindsC⟩ :: ⟨b1, 51, [.pointer (some ⟨b1, 0, none⟩), .slice ra27 (((printL (xs.take i)) ++ ((((((wordL c15.no.toNat) ++ ([32] : List UInt8)) ++ (Lib.itoa c15.a)) ++ ([32] : List UInt8)) ++ (Lib.itoa c15.b)) ++ ([10] : List UInt8))).length) rc28]⟩ :: tl29⟩ [] (by kernel_rfl) (by kernel_rfl) ?_
    refine RV_end ?_
    refine KE_st ⟨[(2, .string (B ([] : List UInt8))), (3, .pointer (some ⟨b1, 0, none⟩)), (4, .pointer (some ⟨b6, 0, none⟩)), (8, .slice x.a x.n x.c), (9, .int .i64 (x.n : Int)), (10, .int .i64 ((i : Int) + 1))], ⟨b18, 36, [.int .i64 c15.no, .int .i64 c15.a, .int .i64 c15.b]⟩ :: ⟨b6, 54, kindsC⟩ :: ⟨b1, 51, [.pointer (some ⟨b1, 0, none⟩), .slice ra27 (((printL (xs.take i)) ++ ((((((wordL c15.no.toNat) ++ ([32] : List UInt8)) ++ (Lib.itoa c15.a)) ++ ([32] : List UInt8)) ++ (Lib.itoa c15.b)) ++ ([10] : List UInt8))).length) rc28]⟩ :: tl29⟩ (by simp only [ha13]) ?_
    refine KE_st ⟨[(2, .string (B ([] : List UInt8))), (3, .pointer (some ⟨b1, 0, none⟩)), (4, .pointer (some ⟨b6, 0, none⟩)), (8, .slice x.a x.n x.c), (9, .int .i64 (x.n : Int)), (10, .int .i64 ((i : Int) + 1))], ⟨b18, 36, [.int .i64 c15.no, .int .i64 c15.a, .int .i64 c15.b]⟩ :: ⟨b6, 54, kindsC⟩ :: ⟨b1, 51, [.pointer (some ⟨b1, 0, none⟩), .slice ra27 ((printL (xs.take (i + 1))).length) rc28]⟩ :: tl29⟩ (by rw [pr_step2 (by omega) hce16]) ?_
    refine KE_rnd (x.n - (i + 1)) [2, 3, 4, 8, 9, 10] [1, 2] 3 ⟨[(2, .string (B ([] : List UInt8))), (3, .pointer (some ⟨b1, 0, none⟩)), (4, .pointer (some ⟨b6, 0, none⟩)), (8, .slice x.a x.n x.c), (9, .int .i64 (x.n : Int)), (10, .int .i64 (((i + 1) : Nat) : Int))], ⟨b6, 54, kindsC⟩ :: ⟨b1, 51, [(.pointer (some ⟨b1, 0, none⟩)), .slice ra27 ((printL (xs.take (i + 1))).length) rc28]⟩ :: tl29⟩ (by kernel_rfl) (by kernel_rfl) (by omega) ⟨(i + 1), (.pointer (some ⟨b1, 0, none⟩)), ra27, rc28, tl29, (by omega), (by exact .inr rfl), (by rw [pr_step2 (by omega) hce16]; exact hrow30), (by exact .inr (pr_ne (by omega))), (by exact take_len hw (by omega)), rfl, (hx9.trans (hx22.trans (hx26.trans hx34))), rfl⟩
  · skip
    replace h10 := of_decide_eq_false h10
    refine VC_exit ?_
    refine KE_exit_then ?_
    refine KE_exit_then ?_
    refine KE_exit_here ?_
    refine KE_then ?_
    refine VC_seq ?_
    refine VC_region 2 rfl ?_
    refine RV_swap [⟨b6, 54, kindsC⟩] (⟨b1, 51, [p, .slice ra ((printL (xs.take i)).length) rc]⟩ :: tl) rfl ?_
    refine RV_callM (c := 1) (⟨b1, 51, [p, .slice ra ((printL (xs.take i)).length) rc]⟩ :: tl) [⟨b6, 54, kindsC⟩] (f := 25) (vs := [.pointer (some ⟨b1, 0, none⟩)]) (dst := (some 32)) (by kernel_rfl) E25 rfl (fun wa hxe hp => c25 b1 p ra rc (printL (xs.take i)) tl _ wa hp hrow htl (by omega)) ?_
    rintro S35 w36 v37 _ hx38 ⟨rfl, rfl⟩
    have hG := hG.ext hx38
    have hx := hx.ext hx38
    refine RV_go (hs := [0]) (c' := 0) (k' := 2) TOK [2] ⟨[(2, .string (B (printL (xs.take i))))], [⟨b6, 54, kindsC⟩]⟩ [] (by kernel_rfl) (by kernel_rfl) ?_
    refine RV_end ?_
    refine KE_then ?_
    refine VC_ret (ls := []) TOK [] 1 false [] [.string (B (printL (xs.take i)))] [] ([]) rfl (by kernel_rfl) (by kernel_rfl) (fun w9 hx9 => ?_)
    show (.string (B (printL (xs.take i))) : Value) = .string (B (printL xs))
    rw [List.take_of_length_le (show xs.length ≤ i from by omega)]

end Go.YtmfkmoecbnghhaaDoor
