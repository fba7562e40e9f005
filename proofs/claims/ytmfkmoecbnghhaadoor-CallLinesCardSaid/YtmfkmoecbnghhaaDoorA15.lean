/- Contracts of functions, over the symbolic executor: each comes to what its theorem says. Written by gen.py, a program of this work. -/
import Derived.Test.YtmfkmoecbnghhaaDoorA14
import Derived.Test.YtmfkmoecbnghhaaDoorEngU
namespace Go.YtmfkmoecbnghhaaDoor
open Go Eng Go.Proofs Law Go.RowKit
set_option linter.unusedVariables false
set_option linter.unusedSimpArgs false

def nxL (s : List UInt8) : Option (List Value × List UInt8) := if s = [] then none else some ([.string (B (fstL s))], rstL s)
theorem nxL_some {s s' : List UInt8} {vs : List Value} (h : nxL s = some (vs, s')) : s ≠ [] ∧ vs = [.string (B (fstL s))] ∧ s' = rstL s := by
  unfold nxL at h
  split at h
  · cases h
  · rename_i hs
    simp only [Option.some.injEq, Prod.mk.injEq] at h
    exact ⟨hs, h.1.symm, h.2.symm⟩
theorem nxL_none {s : List UInt8} (h : nxL s = none) : s = [] := by
  unfold nxL at h
  split at h
  · assumption
  · cases h
theorem nxL_len {s s' : List UInt8} {vs : List Value} (h : nxL s = some (vs, s')) : vs.length = 1 := by rw [(nxL_some h).2.1]; rfl
theorem nxL_go {s : List UInt8} (h : s ≠ []) : nxL s = some ([.string (B (fstL s))], rstL s) := by unfold nxL; rw [if_neg h]
theorem fst_rst (s : List UInt8) : s = fstL s ++ rstL s := by
  unfold fstL rstL
  split
  · exact (List.take_append_drop _ _).symm
  · simp
theorem fst_len {l q : List UInt8} {cs : List Sc} (h : l = printL cs ++ q) (hl : l.length ≤ 1000000) : (fstL q).length ≤ 1000000 ∧ (printL cs).length + (fstL q).length ≤ 1000000 := by
  have h1 := congrArg List.length (fst_rst q)
  have h2 := congrArg List.length h
  rw [List.length_append] at h1 h2
  omega
theorem indexByte_at {x r : List UInt8} {c : UInt8} (h : c ∉ x) : Lib.indexByte (x ++ c :: r) c = x.length := by
  induction x with
  | nil => simp [Lib.indexByte]
  | cons b x ih =>
    have h1 : b ≠ c := fun e => h (by simp [e])
    have h2 : c ∉ x := fun e => h (by simp [e])
    rw [List.cons_append, Lib.indexByte]
    simp only [ih h2]
    rw [if_neg (by simpa using h1)]
    simp
theorem fst_sc {d : Sc} (hd : Wr d) (t : List UInt8) : fstL (scL d ++ t) = scL d := by
  have h := sc_lf hd
  have e : scL d ++ t = (wordL d.no.toNat ++ 32 :: (Lib.itoa d.a ++ 32 :: Lib.itoa d.b)) ++ 10 :: t := by rw [scL_eq]; simp
  unfold fstL
  rw [e, indexByte_at h, if_pos (by omega), scL_eq]
  rw [show ((((wordL d.no.toNat ++ 32 :: (Lib.itoa d.a ++ 32 :: Lib.itoa d.b)).length : Nat) : Int).toNat + 1) = ((wordL d.no.toNat ++ 32 :: (Lib.itoa d.a ++ 32 :: Lib.itoa d.b)) ++ [10]).length from by rw [Int.toNat_natCast]; simp only [List.length_append, List.length_cons, List.length_nil]]
  rw [show (wordL d.no.toNat ++ 32 :: (Lib.itoa d.a ++ 32 :: Lib.itoa d.b)) ++ 10 :: t = ((wordL d.no.toNat ++ 32 :: (Lib.itoa d.a ++ 32 :: Lib.itoa d.b)) ++ [10]) ++ t from by simp]
  exact List.take_left' rfl
theorem line_go {l q : List UInt8} {cs : List Sc} {c : Sc} {ok : Bool} (h : l = printL cs ++ q) (hL : LineR (fstL q) c ok) (hk : ok = true) : l = printL (cs ++ [c]) ++ rstL q ∧ Wr c ∧ (printL (cs ++ [c])).length = (printL cs).length + (fstL q).length := by
  obtain ⟨h1, h2⟩ := hL.1 hk
  refine ⟨?_, h2, ?_⟩
  · rw [printL_app, h, List.append_assoc]
    congr 1
    show q = (scL c ++ []) ++ rstL q
    rw [List.append_nil, ← h1]
    exact fst_rst q
  · rw [printL_app, h1, List.length_append]
    simp [printL]
theorem line_end {l q : List UInt8} {cs : List Sc} {c : Sc} {ok : Bool} (h : l = printL cs ++ q) (hw : ∀ c ∈ cs, Wr c) (hq : q ≠ []) (hL : LineR (fstL q) c ok) (hk : ok = false) : ∃ r, Split l cs r ∧ r ≠ [] :=
  ⟨q, ⟨hw, h, fun d hd t e => hL.2 hk d hd (by rw [e]; exact fst_sc hd t)⟩, hq⟩
theorem cs_le (cs : List Sc) : cs.length ≤ (printL cs).length := by
  induction cs with
  | nil => exact Nat.le_refl _
  | cons c cs ih =>
    have := scL_pos c
    simp only [printL, List.length_append, List.length_cons]
    omega
theorem it29 (b1 : Nat) (s0 : List UInt8) (hl : s0.length ≤ 1000000) {S : Nat → Prop} {w : World} : Iter Tryd.prog 29 [] [.pointer (some ⟨b1, 0, none⟩)] [⟨b1, 9, [.string (B s0)]⟩] S w nxL s0 := by
  intro l W J Jx hR hx hlt hown hsep h0
  have hids : ∀ k, idsOf [(⟨b1, 9, [.string (B s0)]⟩ : LB)] k ↔ k = b1 := fun k => ⟨fun ⟨lb, h1, h2⟩ => by rw [List.mem_singleton] at h1; rw [h2, h1], fun h => ⟨_, List.mem_singleton.2 rfl, h⟩⟩
  have hbut : ∀ {W W'}, But b1 W W' → ButS (idsOf [(⟨b1, 9, [.string (B s0)]⟩ : LB)]) W W' := fun k => ⟨k.os, k.tape, k.output, k.size, fun j h1 h2 => k.block j h1 fun e => h2 ((hids j).2 e)⟩
  refine (f29 l b1 s0 (fun s W => J s W ∧ ∀ b, S b → b < W.heap.size) Jx W ⟨?_, ?_, ?_⟩ (hown _ (List.mem_singleton.2 rfl)) hl ⟨h0, hlt⟩).mono ?_
  · rintro s W W' ⟨hJ, hb⟩ k
    exact ⟨hR.keep s W W' hJ (hbut k), fun b h => Nat.lt_of_lt_of_le (hb b h) k.size⟩
  · rintro s W hs ⟨hJ, hb⟩ hb1
    obtain ⟨fn, tmps, assign, body, hy, hr⟩ := hR.round s _ _ W (nxL_go hs) hJ (fun b h => h.elim (hb b) fun h => (hids b).1 h ▸ hb1)
    refine ⟨fn, tmps, assign, body, hy, hr.mono ?_⟩
    rintro e W' ⟨k, hJ'⟩
    refine ⟨k.os, k.tape, k.output, k.size, k.block b1 hb1 (fun h => h (.inr ((hids b1).2 rfl))), ?_⟩
    rcases hJ' with ⟨rfl, hJ'⟩ | ⟨rfl, hJ'⟩
    · exact .inl ⟨rfl, hJ', fun b h => Nat.lt_of_lt_of_le (hb b h) k.size⟩
    · exact .inr ⟨rfl, hJ'⟩
  · exact fun W W' hJ k => hR.keepx W W' hJ (hbut k)
  · rintro e w' ⟨v, rfl, h1, h2⟩
    refine ⟨v, rfl, h1, ?_⟩
    rcases h2 with ⟨h2, _⟩ | h2
    · exact .inl ⟨[], rfl, h2⟩
    · exact .inr h2

theorem f9 (l : List UInt8) (S : Nat → Prop) (w : World) (hP : Pre S w []) (hG : Glob S w) (hl : l.length ≤ 1000000) :
    Calls Tryd.prog 9 #[.string (B l)] w (Ret S w [] fun v_ ls_ S_ w_ => ParseR l S_ w_ v_) := by
  refine Calls_of_VCM (ls := []) ⟨[(0, .string (B l))], []⟩ Tryd.func9 rfl (by kernel_rfl) (by kernel_rfl) hP ?_
  refine VC_seq ?_
  refine VC_region 3 rfl ?_
  refine RV_new (c := 2) TOK [0, 2] (fun b1 => ⟨[(0, .string (B l)), (2, .pointer (some ⟨b1, 0, none⟩))], [⟨b1, 22, [.slice none 0 0]⟩]⟩) (fun _ => by kernel_rfl) (fun b1 => ?_)
  refine RV_new (c := 1) TOK [0, 2, 3] (fun b2 => ⟨[(0, .string (B l)), (2, .pointer (some ⟨b1, 0, none⟩)), (3, .pointer (some ⟨b2, 0, none⟩))], [⟨b2, 3, [.int .i64 0]⟩, ⟨b1, 22, [.slice none 0 0]⟩]⟩) (fun _ => by kernel_rfl) (fun b2 => ?_)
  refine RV_new (c := 0) TOK [0, 2, 3, 4] (fun b3 => ⟨[(0, .string (B l)), (2, .pointer (some ⟨b1, 0, none⟩)), (3, .pointer (some ⟨b2, 0, none⟩)), (4, .pointer (some ⟨b3, 0, none⟩))], [⟨b3, 24, [.int .i64 0]⟩, ⟨b2, 3, [.int .i64 0]⟩, ⟨b1, 22, [.slice none 0 0]⟩]⟩) (fun _ => by kernel_rfl) (fun b3 => ?_)
  refine RV_end ?_
  refine KE_then ?_
  refine VC_seq ?_
  refine VC_region 1 rfl ?_
  refine RV_new (c := 0) TOK [0, 2, 3, 4, 5] (fun b4 => ⟨[(0, .string (B l)), (2, .pointer (some ⟨b1, 0, none⟩)), (3, .pointer (some ⟨b2, 0, none⟩)), (4, .pointer (some ⟨b3, 0, none⟩)), (5, .pointer (some ⟨b4, 0, none⟩))], [⟨b4, 22, [.slice none 0 0]⟩, ⟨b3, 24, [.int .i64 0]⟩, ⟨b2, 3, [.int .i64 0]⟩, ⟨b1, 22, [.slice none 0 0]⟩]⟩) (fun _ => by kernel_rfl) (fun b4 => ?_)
  refine RV_end ?_
  refine KE_then ?_
  refine VC_seq ?_
  refine VC_region 2 rfl ?_
  refine RV_new (c := 1) TOK [0, 2, 3, 4, 5, 6] (fun b5 => ⟨[(0, .string (B l)), (2, .pointer (some ⟨b1, 0, none⟩)), (3, .pointer (some ⟨b2, 0, none⟩)), (4, .pointer (some ⟨b3, 0, none⟩)), (5, .pointer (some ⟨b4, 0, none⟩)), (6, .pointer (some ⟨b5, 0, none⟩))], [⟨b5, 3, [.int .i64 0]⟩, ⟨b4, 22, [.slice none 0 0]⟩, ⟨b3, 24, [.int .i64 0]⟩, ⟨b2, 3, [.int .i64 0]⟩, ⟨b1, 22, [.slice none 0 0]⟩]⟩) (fun _ => by kernel_rfl) (fun b5 => ?_)
  refine RV_go (hs := [0]) (c' := 0) (k' := 2) TOK [0, 2, 3, 4, 5, 6] ⟨[(0, .string (B l)), (2, .pointer (some ⟨b1, 0, none⟩)), (3, .pointer (some ⟨b2, 0, none⟩)), (4, .pointer (some ⟨b3, 0, none⟩)), (5, .pointer (some ⟨b4, 0, none⟩)), (6, .pointer (some ⟨b5, 0, none⟩))], [⟨b5, 3, [.int .i64 0]⟩, ⟨b4, 22, [.slice none 0 0]⟩, ⟨b3, 24, [.int .i64 0]⟩, ⟨b2, 3, [.int .i64 0]⟩, ⟨b1, 22, [.slice none 0 0]⟩]⟩ [b5] (by kernel_rfl) (by kernel_rfl) ?_
  refine RV_end ?_
  refine KE_then ?_
  refine VC_seq ?_
  refine VC_seq ?_
  refine VC_region 2 rfl ?_
  refine RV_go (hs := [0]) (c' := 1) (k' := 1) TOK [2, 3, 4, 5, 6, 10] ⟨[(2, .pointer (some ⟨b1, 0, none⟩)), (3, .pointer (some ⟨b2, 0, none⟩)), (4, .pointer (some ⟨b3, 0, none⟩)), (5, .pointer (some ⟨b4, 0, none⟩)), (6, .pointer (some ⟨b5, 0, none⟩)), (10, .string (B l))], [⟨b5, 3, [.int .i64 0]⟩, ⟨b4, 22, [.slice none 0 0]⟩, ⟨b3, 24, [.int .i64 0]⟩, ⟨b2, 3, [.int .i64 0]⟩, ⟨b1, 22, [.slice none 0 0]⟩]⟩ [] (by kernel_rfl) (by kernel_rfl) ?_
  refine RV_callM (c := 0) [] ([⟨b5, 3, [.int .i64 0]⟩, ⟨b4, 22, [.slice none 0 0]⟩, ⟨b3, 24, [.int .i64 0]⟩, ⟨b2, 3, [.int .i64 0]⟩, ⟨b1, 22, [.slice none 0 0]⟩]) (f := 18) (vs := [.string (B l)]) (dst := (some 11)) (by kernel_rfl) E18 rfl (fun wa hxe hp => f18 l _ wa hp) ?_
  rintro S7 w8 v9 _ hx10 ⟨bx6, rfl, rfl⟩
  have hG := hG.ext hx10
  refine RV_end ?_
  refine KE_then ?_
  refine VC_block ?_
  refine VC_keep [2, 3, 4, 5, 6, 11] [0, 1, 2, 3, 4, 5] 6 ⟨[(2, .pointer (some ⟨b1, 0, none⟩)), (3, .pointer (some ⟨b2, 0, none⟩)), (4, .pointer (some ⟨b3, 0, none⟩)), (5, .pointer (some ⟨b4, 0, none⟩)), (6, .pointer (some ⟨b5, 0, none⟩)), (11, .func (.func 29) #[] #[.pointer (some ⟨bx6, 0, none⟩)])], [⟨bx6, 9, [.string (B l)]⟩, ⟨b5, 3, [.int .i64 0]⟩, ⟨b4, 22, [.slice none 0 0]⟩, ⟨b3, 24, [.int .i64 0]⟩, ⟨b2, 3, [.int .i64 0]⟩, ⟨b1, 22, [.slice none 0 0]⟩]⟩ (by kernel_rfl) (by kernel_rfl) ?_
  refine VC_range [⟨bx6, 9, [.string (B l)]⟩] ([⟨b5, 3, [.int .i64 0]⟩, ⟨b4, 22, [.slice none 0 0]⟩, ⟨b3, 24, [.int .i64 0]⟩, ⟨b2, 3, [.int .i64 0]⟩, ⟨b1, 22, [.slice none 0 0]⟩]) nxL l (fun q_ S' w' lo_ => ∃ (cs : List Sc) (ra : Option Addr) (rc : Nat) (tl : List LB), (l = printL cs ++ q_) ∧ (∀ c ∈ cs, Wr c) ∧ (RowOK 36 3 ⟨ra, cs.length, rc⟩ (cellsC cs) tl) ∧ Ext S7 w8 S' w' ∧ lo_ = (⟨b5, 3, [.int .i64 (((printL cs).length : Nat) : Int)]⟩ :: ⟨b4, 22, [.slice ra cs.length rc]⟩ :: ⟨b3, 24, [.int .i64 0]⟩ :: ⟨b2, 3, [.int .i64 0]⟩ :: ⟨b1, 22, [.slice none 0 0]⟩ :: tl : List LB)) (fun c_ S' w' lo_ => c_ = .ret ∧ ∃ (cs : List Sc) (ra : Option Addr) (rc : Nat), (∃ r, Split l cs r ∧ r ≠ []) ∧ Ext S7 w8 S' w' ∧ lo_ = ([⟨b5, 3, [.int .i64 (((printL cs).length : Nat) : Int)]⟩, ⟨b4, 22, [.slice ra cs.length rc]⟩, ⟨b3, 24, [.int .i64 1]⟩, ⟨b2, 3, [.int .i64 (((printL cs).length : Nat) : Int)]⟩, ⟨b1, 22, [.slice none 0 0]⟩] : List LB)) rfl E29 rfl (by kernel_rfl) (fun _ _ _ h => nxL_len h) (fun _ _ => it29 bx6 l hl) ⟨[], none, 0, [], (by rfl), (by simp), (by exact RowOK.nil 36 3), Ext.refl _ _, rfl⟩ ?_ ?_ ?_
  · skip
    rintro l_ q_ vs_ q2_ S11 w12 _ W1_ hnx_ ⟨cs, ra, rc, tl, hlq, hwr, hrow, hx13, rfl⟩
    obtain ⟨hq_, rfl, rfl⟩ := nxL_some hnx_
    have hfl := fst_len hlq hl
    have hcl := cs_le cs
    have hG := hG.ext hx13
    refine VCI_keep [2, 3, 4, 5, 6, 11, 12] [0, 1, 2, 3, 4] 5 ⟨[(2, .pointer (some ⟨b1, 0, none⟩)), (3, .pointer (some ⟨b2, 0, none⟩)), (4, .pointer (some ⟨b3, 0, none⟩)), (5, .pointer (some ⟨b4, 0, none⟩)), (6, .pointer (some ⟨b5, 0, none⟩)), (11, .func (.func 29) #[] #[.pointer (some ⟨bx6, 0, none⟩)]), (12, .string (B (fstL q_)))], ⟨b5, 3, [.int .i64 (((printL cs).length : Nat) : Int)]⟩ :: ⟨b4, 22, [.slice ra cs.length rc]⟩ :: ⟨b3, 24, [.int .i64 0]⟩ :: ⟨b2, 3, [.int .i64 0]⟩ :: ⟨b1, 22, [.slice none 0 0]⟩ :: tl⟩ (by kernel_rfl) (by kernel_rfl) ?_
    refine VCI_region (by kernel_rfl) 1 rfl ?_
    refine RV_go (hs := [0]) (c' := 0) (k' := 1) TOK [2, 3, 4, 5, 6, 7] ⟨[(2, .pointer (some ⟨b1, 0, none⟩)), (3, .pointer (some ⟨b2, 0, none⟩)), (4, .pointer (some ⟨b3, 0, none⟩)), (5, .pointer (some ⟨b4, 0, none⟩)), (6, .pointer (some ⟨b5, 0, none⟩)), (7, .string (B (fstL q_)))], ⟨b5, 3, [.int .i64 (((printL cs).length : Nat) : Int)]⟩ :: ⟨b4, 22, [.slice ra cs.length rc]⟩ :: ⟨b3, 24, [.int .i64 0]⟩ :: ⟨b2, 3, [.int .i64 0]⟩ :: ⟨b1, 22, [.slice none 0 0]⟩ :: tl⟩ [] (by kernel_rfl) (by kernel_rfl) ?_
    refine RV_end ?_
    refine KE_begin (fun w2_ => ?_)
    refine VCI_block ?_
    refine VCI_seq ?_
    refine VCI_region (by kernel_rfl) 8 rfl ?_
    refine RV_go (hs := [0]) (c' := 7) (k' := 1) TOK [2, 3, 4, 5, 6, 7, 14] ⟨[(2, .pointer (some ⟨b1, 0, none⟩)), (3, .pointer (some ⟨b2, 0, none⟩)), (4, .pointer (some ⟨b3, 0, none⟩)), (5, .pointer (some ⟨b4, 0, none⟩)), (6, .pointer (some ⟨b5, 0, none⟩)), (7, .string (B (fstL q_))), (14, .string (B (fstL q_)))], ⟨b5, 3, [.int .i64 (((printL cs).length : Nat) : Int)]⟩ :: ⟨b4, 22, [.slice ra cs.length rc]⟩ :: ⟨b3, 24, [.int .i64 0]⟩ :: ⟨b2, 3, [.int .i64 0]⟩ :: ⟨b1, 22, [.slice none 0 0]⟩ :: tl⟩ [] (by kernel_rfl) (by kernel_rfl) ?_
    refine RV_call (c := 6) (f := 19) (vs := [.string (B (fstL q_))]) (dst := (some 15)) (by kernel_rfl) E19 (fun wa hxe hp => f19 (fstL q_) _ wa hp (hG.ext hxe) hfl.1) ?_
    rintro S17 w18 v19 _ hx20 ⟨c14, ok15, rfl, hL16⟩
    have hG := hG.ext hx20
    refine RV_go (hs := [0, 0, 0]) (c' := 3) (k' := 5) TOK [2, 3, 4, 5, 6, 7, 16, 17] ⟨[(2, .pointer (some ⟨b1, 0, none⟩)), (3, .pointer (some ⟨b2, 0, none⟩)), (4, .pointer (some ⟨b3, 0, none⟩)), (5, .pointer (some ⟨b4, 0, none⟩)), (6, .pointer (some ⟨b5, 0, none⟩)), (7, .string (B (fstL q_))), (16, .agg #[.int .i64 c14.no, .int .i64 c14.a, .int .i64 c14.b]), (17, .bool ok15)], ⟨b5, 3, [.int .i64 (((printL cs).length : Nat) : Int)]⟩ :: ⟨b4, 22, [.slice ra cs.length rc]⟩ :: ⟨b3, 24, [.int .i64 0]⟩ :: ⟨b2, 3, [.int .i64 0]⟩ :: ⟨b1, 22, [.slice none 0 0]⟩ :: tl⟩ [] (by kernel_rfl) (by kernel_rfl) ?_
    refine RV_new (c := 2) TOK [2, 3, 4, 5, 6, 7, 8, 16, 17] (fun b21 => ⟨[(2, .pointer (some ⟨b1, 0, none⟩)), (3, .pointer (some ⟨b2, 0, none⟩)), (4, .pointer (some ⟨b3, 0, none⟩)), (5, .pointer (some ⟨b4, 0, none⟩)), (6, .pointer (some ⟨b5, 0, none⟩)), (7, .string (B (fstL q_))), (8, .pointer (some ⟨b21, 0, none⟩)), (16, .agg #[.int .i64 c14.no, .int .i64 c14.a, .int .i64 c14.b]), (17, .bool ok15)], ⟨b21, 36, [.int .i64 0, .int .i64 0, .int .i64 0]⟩ :: ⟨b5, 3, [.int .i64 (((printL cs).length : Nat) : Int)]⟩ :: ⟨b4, 22, [.slice ra cs.length rc]⟩ :: ⟨b3, 24, [.int .i64 0]⟩ :: ⟨b2, 3, [.int .i64 0]⟩ :: ⟨b1, 22, [.slice none 0 0]⟩ :: tl⟩) (fun _ => by kernel_rfl) (fun b21 => ?_)
    refine RV_go (hs := [0, 0]) (c' := 0) (k' := 8) TOK [2, 3, 4, 5, 6, 7, 8, 9] ⟨[(2, .pointer (some ⟨b1, 0, none⟩)), (3, .pointer (some ⟨b2, 0, none⟩)), (4, .pointer (some ⟨b3, 0, none⟩)), (5, .pointer (some ⟨b4, 0, none⟩)), (6, .pointer (some ⟨b5, 0, none⟩)), (7, .string (B (fstL q_))), (8, .pointer (some ⟨b21, 0, none⟩)), (9, .bool ok15)], ⟨b21, 36, [.int .i64 c14.no, .int .i64 c14.a, .int .i64 c14.b]⟩ :: ⟨b5, 3, [.int .i64 (((printL cs).length : Nat) : Int)]⟩ :: ⟨b4, 22, [.slice ra cs.length rc]⟩ :: ⟨b3, 24, [.int .i64 0]⟩ :: ⟨b2, 3, [.int .i64 0]⟩ :: ⟨b1, 22, [.slice none 0 0]⟩ :: tl⟩ [b21] (by kernel_rfl) (by kernel_rfl) ?_
    refine RV_end ?_
    refine KEI_then ?_
    refine VCI_seq ?_
    refine VCI_seq ?_
    refine VCI_region (by kernel_rfl) 2 rfl ?_
    refine RV_go (hs := [0, 0]) (c' := 0) (k' := 2) TOK [2, 3, 4, 5, 6, 7, 8, 19] ⟨[(2, .pointer (some ⟨b1, 0, none⟩)), (3, .pointer (some ⟨b2, 0, none⟩)), (4, .pointer (some ⟨b3, 0, none⟩)), (5, .pointer (some ⟨b4, 0, none⟩)), (6, .pointer (some ⟨b5, 0, none⟩)), (7, .string (B (fstL q_))), (8, .pointer (some ⟨b21, 0, none⟩)), (19, .bool (!ok15))], ⟨b21, 36, [.int .i64 c14.no, .int .i64 c14.a, .int .i64 c14.b]⟩ :: ⟨b5, 3, [.int .i64 (((printL cs).length : Nat) : Int)]⟩ :: ⟨b4, 22, [.slice ra cs.length rc]⟩ :: ⟨b3, 24, [.int .i64 0]⟩ :: ⟨b2, 3, [.int .i64 0]⟩ :: ⟨b1, 22, [.slice none 0 0]⟩ :: tl⟩ [] (by kernel_rfl) (by kernel_rfl) ?_
    refine RV_end ?_
    refine KEI_then ?_
    refine VCI_cond (!ok15) (by kernel_rfl) (fun h22 => ?_) (fun h22 => ?_)
    · skip
      have h22 : ok15 = false := by simpa using h22
      have hend := line_end hlq hwr hq_ hL16 h22
      refine VCI_seq ?_
      refine VCI_draw (by kernel_rfl) MIX [⟨b21, 36, [.int .i64 c14.no, .int .i64 c14.a, .int .i64 c14.b]⟩, ⟨b5, 3, [.int .i64 (((printL cs).length : Nat) : Int)]⟩, ⟨b4, 22, [.slice ra cs.length rc]⟩] 4 rfl ?_
      refine RVd_take (fuel' := 3) TOK [] [(0, 1)] [2, 3, 4, 5, 6, 7, 8, 20] [0, 1, 2] #[true, false, false, false] [(2, .pointer (some ⟨b1, 0, none⟩)), (3, .pointer (some ⟨b2, 0, none⟩)), (4, .pointer (some ⟨b3, 0, none⟩)), (5, .pointer (some ⟨b4, 0, none⟩)), (6, .pointer (some ⟨b5, 0, none⟩)), (7, .string (B (fstL q_))), (8, .pointer (some ⟨b21, 0, none⟩)), (20, .int .i64 (((printL cs).length : Nat) : Int))] [b5] [] (by kernel_rfl) (by kernel_rfl) (by kernel_rfl) (by kernel_rfl) ROL_nil trivial ?_
      refine RVd_step (fuel := 2) TOK 1 5 [2, 3, 4, 5, 6, 7, 8, 20] [0, 1, 2] #[true, true, false, false] ⟨[(2, .pointer (some ⟨b1, 0, none⟩)), (3, .pointer (some ⟨b2, 0, none⟩)), (4, .pointer (some ⟨b3, 0, none⟩)), (5, .pointer (some ⟨b4, 0, none⟩)), (6, .pointer (some ⟨b5, 0, none⟩)), (7, .string (B (fstL q_))), (8, .pointer (some ⟨b21, 0, none⟩)), (20, .int .i64 (((printL cs).length : Nat) : Int))], ⟨b21, 36, [.int .i64 c14.no, .int .i64 c14.a, .int .i64 c14.b]⟩ :: ⟨b5, 3, [.int .i64 (((printL cs).length : Nat) : Int)]⟩ :: ⟨b4, 22, [.slice ra cs.length rc]⟩ :: ⟨b3, 24, [.int .i64 0]⟩ :: ⟨b2, 3, [.int .i64 0]⟩ :: ⟨b1, 22, [.slice none 0 0]⟩ :: tl⟩ [b1] (by kernel_rfl) (by kernel_rfl) (by kernel_rfl) (by kernel_rfl) ?_
      refine RVd_step (fuel := 1) TOK 2 4 [2, 3, 4, 5, 6, 7, 8] [0, 1, 2] #[true, true, true, false] ⟨[(2, .pointer (some ⟨b1, 0, none⟩)), (3, .pointer (some ⟨b2, 0, none⟩)), (4, .pointer (some ⟨b3, 0, none⟩)), (5, .pointer (some ⟨b4, 0, none⟩)), (6, .pointer (some ⟨b5, 0, none⟩)), (7, .string (B (fstL q_))), (8, .pointer (some ⟨b21, 0, none⟩))], ⟨b21, 36, [.int .i64 c14.no, .int .i64 c14.a, .int .i64 c14.b]⟩ :: ⟨b5, 3, [.int .i64 (((printL cs).length : Nat) : Int)]⟩ :: ⟨b4, 22, [.slice ra cs.length rc]⟩ :: ⟨b3, 24, [.int .i64 0]⟩ :: ⟨b2, 3, [.int .i64 (((printL cs).length : Nat) : Int)]⟩ :: ⟨b1, 22, [.slice none 0 0]⟩ :: tl⟩ [b2] (by kernel_rfl) (by kernel_rfl) (by kernel_rfl) (by kernel_rfl) ?_
      refine RVd_step (fuel := 0) TOK 3 3 [2, 3, 4, 5, 6, 7, 8] [0, 1, 2] #[true, true, true, true] ⟨[(2, .pointer (some ⟨b1, 0, none⟩)), (3, .pointer (some ⟨b2, 0, none⟩)), (4, .pointer (some ⟨b3, 0, none⟩)), (5, .pointer (some ⟨b4, 0, none⟩)), (6, .pointer (some ⟨b5, 0, none⟩)), (7, .string (B (fstL q_))), (8, .pointer (some ⟨b21, 0, none⟩))], ⟨b21, 36, [.int .i64 c14.no, .int .i64 c14.a, .int .i64 c14.b]⟩ :: ⟨b5, 3, [.int .i64 (((printL cs).length : Nat) : Int)]⟩ :: ⟨b4, 22, [.slice ra cs.length rc]⟩ :: ⟨b3, 24, [.int .i64 1]⟩ :: ⟨b2, 3, [.int .i64 (((printL cs).length : Nat) : Int)]⟩ :: ⟨b1, 22, [.slice none 0 0]⟩ :: tl⟩ [b3] (by kernel_rfl) (by kernel_rfl) (by kernel_rfl) (by kernel_rfl) ?_
      refine RVd_end (by kernel_rfl) ?_
      refine KEI_then ?_
      refine VCI_ret ?_
      refine KE_ret_then ?_
      refine KE_ret_block ?_
      refine KE_less [] [1, 2, 3, 4, 5] ⟨[], [⟨b5, 3, [.int .i64 (((printL cs).length : Nat) : Int)]⟩, ⟨b4, 22, [.slice ra cs.length rc]⟩, ⟨b3, 24, [.int .i64 1]⟩, ⟨b2, 3, [.int .i64 (((printL cs).length : Nat) : Int)]⟩, ⟨b1, 22, [.slice none 0 0]⟩]⟩ (by kernel_rfl) (by decide) ?_
      exact KE_round_ret ⟨rfl, cs, ra, rc, (by exact hend), (hx13.trans hx20), rfl⟩
    · skip
      have h22 : ok15 = true := by simpa using h22
      obtain ⟨hgo, hwc, hgl⟩ := line_go hlq hL16 h22
      refine VCI_skip ?_
      refine KEI_then ?_
      refine VCI_seq ?_
      refine VCI_region (by kernel_rfl) 5 rfl ?_
      refine RV_go (hs := [2, 0]) (c' := 3) (k' := 2) TOK [2, 3, 4, 5, 6, 7, 21, 22] ⟨[(2, .pointer (some ⟨b1, 0, none⟩)), (3, .pointer (some ⟨b2, 0, none⟩)), (4, .pointer (some ⟨b3, 0, none⟩)), (5, .pointer (some ⟨b4, 0, none⟩)), (6, .pointer (some ⟨b5, 0, none⟩)), (7, .string (B (fstL q_))), (21, .slice ra cs.length rc), (22, .agg #[.int .i64 c14.no, .int .i64 c14.a, .int .i64 c14.b])], ⟨b21, 36, [.int .i64 c14.no, .int .i64 c14.a, .int .i64 c14.b]⟩ :: ⟨b5, 3, [.int .i64 (((printL cs).length : Nat) : Int)]⟩ :: ⟨b4, 22, [.slice ra cs.length rc]⟩ :: ⟨b3, 24, [.int .i64 0]⟩ :: ⟨b2, 3, [.int .i64 0]⟩ :: ⟨b1, 22, [.slice none 0 0]⟩ :: tl⟩ [b4, b21] (by kernel_rfl) (by kernel_rfl) ?_
      refine RV_new (c := 2) TOK [2, 3, 4, 5, 6, 7, 21, 23] (fun b23 => ⟨[(2, .pointer (some ⟨b1, 0, none⟩)), (3, .pointer (some ⟨b2, 0, none⟩)), (4, .pointer (some ⟨b3, 0, none⟩)), (5, .pointer (some ⟨b4, 0, none⟩)), (6, .pointer (some ⟨b5, 0, none⟩)), (7, .string (B (fstL q_))), (21, .slice ra cs.length rc), (23, .slice (some ⟨b23, 0, none⟩) 1 1)], ⟨b23, 36, [.int .i64 c14.no, .int .i64 c14.a, .int .i64 c14.b]⟩ :: ⟨b21, 36, [.int .i64 c14.no, .int .i64 c14.a, .int .i64 c14.b]⟩ :: ⟨b5, 3, [.int .i64 (((printL cs).length : Nat) : Int)]⟩ :: ⟨b4, 22, [.slice ra cs.length rc]⟩ :: ⟨b3, 24, [.int .i64 0]⟩ :: ⟨b2, 3, [.int .i64 0]⟩ :: ⟨b1, 22, [.slice none 0 0]⟩ :: tl⟩) (fun _ => by kernel_rfl) (fun b23 => ?_)
      refine RV_append1 (c := 1) (t := 22) (e := 36) (ti := ti36) (v := ⟨ra, cs.length, rc⟩) (x := ⟨(some ⟨b23, 0, none⟩), 1, 1⟩) (dst := some 24) (by' := 24) (xs := cellsC cs) (news := [.int .i64 c14.no, .int .i64 c14.a, .int .i64 c14.b]) TOK [⟨b23, 36, [.int .i64 c14.no, .int .i64 c14.a, .int .i64 c14.b]⟩, ⟨b21, 36, [.int .i64 c14.no, .int .i64 c14.a, .int .i64 c14.b]⟩, ⟨b5, 3, [.int .i64 (((printL cs).length : Nat) : Int)]⟩, ⟨b4, 22, [.slice ra cs.length rc]⟩, ⟨b3, 24, [.int .i64 0]⟩, ⟨b2, 3, [.int .i64 0]⟩, ⟨b1, 22, [.slice none 0 0]⟩] tl (by kernel_rfl) rfl (by kernel_rfl) (by kernel_rfl) hrow (fun wa hI => SrcIs.own (k := 1) (ty := 36) hI (by simp) rfl) (by kernel_rfl) (by simp only [maxLen]; omega) (by dsimp only; omega) ?_
      intro ra24 rc25 tl26 hrow27
      refine RV_go (hs := [3]) (c' := 0) (k' := 5) TOK [2, 3, 4, 6, 7] ⟨[(2, .pointer (some ⟨b1, 0, none⟩)), (3, .pointer (some ⟨b2, 0, none⟩)), (4, .pointer (some ⟨b3, 0, none⟩)), (6, .pointer (some ⟨b5, 0, none⟩)), (7, .string (B (fstL q_)))], ⟨b23, 36, [.int .i64 c14.no, .int .i64 c14.a, .int .i64 c14.b]⟩ :: ⟨b21, 36, [.int .i64 c14.no, .int .i64 c14.a, .int .i64 c14.b]⟩ :: ⟨b5, 3, [.int .i64 (((printL cs).length : Nat) : Int)]⟩ :: ⟨b4, 22, [.slice ra24 (cs.length + 1) rc25]⟩ :: ⟨b3, 24, [.int .i64 0]⟩ :: ⟨b2, 3, [.int .i64 0]⟩ :: ⟨b1, 22, [.slice none 0 0]⟩ :: tl26⟩ [b4] (by kernel_rfl) (by kernel_rfl) ?_
      refine RV_end ?_
      refine KEI_then ?_
      refine VCI_region (by kernel_rfl) 5 rfl ?_
      refine RV_go (hs := [2, 0, 0, 0]) (c' := 1) (k' := 4) TOK [2, 3, 4, 6, 28] ⟨[(2, .pointer (some ⟨b1, 0, none⟩)), (3, .pointer (some ⟨b2, 0, none⟩)), (4, .pointer (some ⟨b3, 0, none⟩)), (6, .pointer (some ⟨b5, 0, none⟩)), (28, .int .i64 (IntKind.i64.wrap ((((printL cs).length : Nat) : Int) + ((fstL q_).length : Int))))], ⟨b23, 36, [.int .i64 c14.no, .int .i64 c14.a, .int .i64 c14.b]⟩ :: ⟨b21, 36, [.int .i64 c14.no, .int .i64 c14.a, .int .i64 c14.b]⟩ :: ⟨b5, 3, [.int .i64 (((printL cs).length : Nat) : Int)]⟩ :: ⟨b4, 22, [.slice ra24 (cs.length + 1) rc25]⟩ :: ⟨b3, 24, [.int .i64 0]⟩ :: ⟨b2, 3, [.int .i64 0]⟩ :: ⟨b1, 22, [.slice none 0 0]⟩ :: tl26⟩ [b5] (by kernel_rfl) (by kernel_rfl) ?_
      refine RV_st ⟨[(2, .pointer (some ⟨b1, 0, none⟩)), (3, .pointer (some ⟨b2, 0, none⟩)), (4, .pointer (some ⟨b3, 0, none⟩)), (6, .pointer (some ⟨b5, 0, none⟩)), (28, .int .i64 ((((printL cs).length : Nat) : Int) + ((fstL q_).length : Int)))], ⟨b23, 36, [.int .i64 c14.no, .int .i64 c14.a, .int .i64 c14.b]⟩ :: ⟨b21, 36, [.int .i64 c14.no, .int .i64 c14.a, .int .i64 c14.b]⟩ :: ⟨b5, 3, [.int .i64 (((printL cs).length : Nat) : Int)]⟩ :: ⟨b4, 22, [.slice ra24 (cs.length + 1) rc25]⟩ :: ⟨b3, 24, [.int .i64 0]⟩ :: ⟨b2, 3, [.int .i64 0]⟩ :: ⟨b1, 22, [.slice none 0 0]⟩ :: tl26⟩ (by rw [wrap_id (x := (((printL cs).length : Nat) : Int) + ((fstL q_).length : Int)) (by unfold InR; omega)]) ?_
      refine RV_go (hs := [2]) (c' := 0) (k' := 5) TOK [2, 3, 4] ⟨[(2, .pointer (some ⟨b1, 0, none⟩)), (3, .pointer (some ⟨b2, 0, none⟩)), (4, .pointer (some ⟨b3, 0, none⟩))], ⟨b23, 36, [.int .i64 c14.no, .int .i64 c14.a, .int .i64 c14.b]⟩ :: ⟨b21, 36, [.int .i64 c14.no, .int .i64 c14.a, .int .i64 c14.b]⟩ :: ⟨b5, 3, [.int .i64 ((((printL cs).length : Nat) : Int) + ((fstL q_).length : Int))]⟩ :: ⟨b4, 22, [.slice ra24 (cs.length + 1) rc25]⟩ :: ⟨b3, 24, [.int .i64 0]⟩ :: ⟨b2, 3, [.int .i64 0]⟩ :: ⟨b1, 22, [.slice none 0 0]⟩ :: tl26⟩ [b5] (by kernel_rfl) (by kernel_rfl) ?_
      refine RV_end ?_
      refine KE_block ?_
      refine KE_st ⟨[(2, .pointer (some ⟨b1, 0, none⟩)), (3, .pointer (some ⟨b2, 0, none⟩)), (4, .pointer (some ⟨b3, 0, none⟩))], ⟨b23, 36, [.int .i64 c14.no, .int .i64 c14.a, .int .i64 c14.b]⟩ :: ⟨b21, 36, [.int .i64 c14.no, .int .i64 c14.a, .int .i64 c14.b]⟩ :: ⟨b5, 3, [.int .i64 (((printL (cs ++ [c14])).length : Nat) : Int)]⟩ :: ⟨b4, 22, [.slice ra24 ((cs ++ [c14]).length) rc25]⟩ :: ⟨b3, 24, [.int .i64 0]⟩ :: ⟨b2, 3, [.int .i64 0]⟩ :: ⟨b1, 22, [.slice none 0 0]⟩ :: tl26⟩ (by rw [show (cs ++ [c14]).length = cs.length + 1 from by simp, show (((printL (cs ++ [c14])).length : Nat) : Int) = ((printL cs).length : Int) + ((fstL q_).length : Int) from by omega]) ?_
      refine KE_keep [] [2, 3, 4, 5, 6] 7 ⟨[], ⟨b5, 3, [.int .i64 (((printL (cs ++ [c14])).length : Nat) : Int)]⟩ :: ⟨b4, 22, [.slice ra24 ((cs ++ [c14]).length) rc25]⟩ :: ⟨b3, 24, [.int .i64 0]⟩ :: ⟨b2, 3, [.int .i64 0]⟩ :: ⟨b1, 22, [.slice none 0 0]⟩ :: tl26⟩ (by kernel_rfl) (by kernel_rfl) ?_
      exact KE_round_on ⟨(cs ++ [c14]), ra24, rc25, tl26, (by exact hgo), (by exact fun c hc => (List.mem_append.1 hc).elim (hwr c) (fun h => by rw [List.mem_singleton.1 h]; exact hwc)), (by exact row_next hrow27), (hx13.trans hx20), rfl⟩
  · skip
    rintro D_ q_ S28 w29 _ W1_ hnx_ ⟨cs, ra, rc, tl, hlq, hwr, hrow, hx30, rfl⟩ hO31 hD32 a_ hA_
    have hq_ := nxL_none hnx_
    subst hq_
    rw [List.append_nil] at hlq
    have hG := hG.ext hx30
    obtain ⟨S33, hx34, hO35, hD36, hrsl37⟩ := at_freeze (pre := [⟨b5, 3, [.int .i64 (((printL cs).length : Nat) : Int)]⟩, ⟨b4, 22, [.slice ra cs.length rc]⟩, ⟨b3, 24, [.int .i64 0]⟩, ⟨b2, 3, [.int .i64 0]⟩, ⟨b1, 22, [.slice none 0 0]⟩]) (tl := tl) hO31 hD32 rfl hrow (fun _ _ h => by simp [idsOf] at h)
    have hG := hG.ext hx34
    refine at_KE hO35 ?_ a_ hA_
    refine KE_block ?_
    refine KE_then ?_
    refine VC_seq ?_
    refine VC_draw MIX [⟨b5, 3, [.int .i64 (((printL cs).length : Nat) : Int)]⟩, ⟨b4, 22, [.slice ra cs.length rc]⟩] 5 rfl ?_
    refine RVd_take (fuel' := 3) TOK [] [(0, 1), (1, 0)] [2, 3, 4, 29, 30] [0, 1] #[true, true, false, false, false] [(2, .pointer (some ⟨b1, 0, none⟩)), (3, .pointer (some ⟨b2, 0, none⟩)), (4, .pointer (some ⟨b3, 0, none⟩)), (29, .slice ra cs.length rc), (30, .int .i64 (((printL cs).length : Nat) : Int))] [b4, b5] [] (by kernel_rfl) (by kernel_rfl) (by kernel_rfl) (by kernel_rfl) ROL_nil trivial ?_
    refine RVd_step (fuel := 2) TOK 2 4 [2, 3, 4, 30] [0, 1] #[true, true, true, false, false] ⟨[(2, .pointer (some ⟨b1, 0, none⟩)), (3, .pointer (some ⟨b2, 0, none⟩)), (4, .pointer (some ⟨b3, 0, none⟩)), (30, .int .i64 (((printL cs).length : Nat) : Int))], [⟨b5, 3, [.int .i64 (((printL cs).length : Nat) : Int)]⟩, ⟨b4, 22, [.slice ra cs.length rc]⟩, ⟨b3, 24, [.int .i64 0]⟩, ⟨b2, 3, [.int .i64 0]⟩, ⟨b1, 22, [.slice ra cs.length rc]⟩]⟩ [b1] (by kernel_rfl) (by kernel_rfl) (by kernel_rfl) (by kernel_rfl) ?_
    refine RVd_step (fuel := 1) TOK 3 3 [2, 3, 4] [0, 1] #[true, true, true, true, false] ⟨[(2, .pointer (some ⟨b1, 0, none⟩)), (3, .pointer (some ⟨b2, 0, none⟩)), (4, .pointer (some ⟨b3, 0, none⟩))], [⟨b5, 3, [.int .i64 (((printL cs).length : Nat) : Int)]⟩, ⟨b4, 22, [.slice ra cs.length rc]⟩, ⟨b3, 24, [.int .i64 0]⟩, ⟨b2, 3, [.int .i64 (((printL cs).length : Nat) : Int)]⟩, ⟨b1, 22, [.slice ra cs.length rc]⟩]⟩ [b2] (by kernel_rfl) (by kernel_rfl) (by kernel_rfl) (by kernel_rfl) ?_
    refine RVd_step (fuel := 0) TOK 4 2 [2, 3, 4] [0, 1] #[true, true, true, true, true] ⟨[(2, .pointer (some ⟨b1, 0, none⟩)), (3, .pointer (some ⟨b2, 0, none⟩)), (4, .pointer (some ⟨b3, 0, none⟩))], [⟨b5, 3, [.int .i64 (((printL cs).length : Nat) : Int)]⟩, ⟨b4, 22, [.slice ra cs.length rc]⟩, ⟨b3, 24, [.int .i64 0]⟩, ⟨b2, 3, [.int .i64 (((printL cs).length : Nat) : Int)]⟩, ⟨b1, 22, [.slice ra cs.length rc]⟩]⟩ [b3] (by kernel_rfl) (by kernel_rfl) (by kernel_rfl) (by kernel_rfl) ?_
    refine RVd_end (by kernel_rfl) ?_
    refine KE_then ?_
    refine VC_retM hO35 hD36 (ls := []) TOK [] 5 false [4, 3, 2] [.slice ra cs.length rc, .int .i64 (((printL cs).length : Nat) : Int), .int .i64 0] [b1, b2, b3] ([]) (by kernel_rfl) (by kernel_rfl) (fun w9 hx9 => ?_)
    show ParseR l S33 w9 (.tuple #[.slice ra cs.length rc, .int .i64 (((printL cs).length : Nat) : Int), .int .i64 0] : Value)
    exact ⟨cs, [], hlq ▸ Split.print hwr, .inl ⟨rfl, ⟨ra, cs.length, rc⟩, by rw [hlq], (hrsl37 scE cs rfl rfl (Reads_wr cs hwr)).ext hx9⟩⟩
  · skip
    rintro D_ c_ S38 w39 _ W1_ ⟨rfl, cs, ra, rc, hend, hx40, rfl⟩ hO41 hD42 a_ hA_
    have hG := hG.ext hx40
    refine at_VC hO41 ?_ a_ hA_
    refine VC_retM hO41 hD42 (ls := []) TOK [] 5 false [4, 3, 2] [.slice none 0 0, .int .i64 (((printL cs).length : Nat) : Int), .int .i64 1] [b1, b2, b3] ([]) (by kernel_rfl) (by kernel_rfl) (fun w9 hx9 => ?_)
    show ParseR l S38 w9 (.tuple #[.slice none 0 0, .int .i64 (((printL cs).length : Nat) : Int), .int .i64 1] : Value)
    obtain ⟨r, hs1, hs2⟩ := hend
    exact ⟨cs, r, hs1, .inr ⟨hs2, rfl⟩⟩

end Go.YtmfkmoecbnghhaaDoor
