/- Contracts of functions, over the symbolic executor: each comes to what its theorem says. Written by gen.py, a program of this work. -/
import Derived.Test.YtmfkmoecbnghhaaDoorA12
import Derived.Test.YtmfkmoecbnghhaaDoorEngR
namespace Go.YtmfkmoecbnghhaaDoor
open Go Eng Go.Proofs Law Go.RowKit
set_option linter.unusedVariables false
set_option linter.unusedSimpArgs false

def fstL (s : List UInt8) : List UInt8 := if Lib.indexByte s 10 ≥ 0 then s.take ((Lib.indexByte s 10).toNat + 1) else s
def rstL (s : List UInt8) : List UInt8 := if Lib.indexByte s 10 ≥ 0 then s.drop ((Lib.indexByte s 10).toNat + 1) else []
theorem index_lt (s : List UInt8) : Lib.indexByte s 10 < s.length := by
  induction s with
  | nil => decide
  | cons b s ih =>
    unfold Lib.indexByte
    split
    · simp
    · split
      · simp; omega
      · simp only [List.length_cons]; omega
theorem rst_lt {s : List UInt8} (h : s ≠ []) : (rstL s).length < s.length := by
  have hp : 0 < s.length := List.length_pos_iff.2 h
  unfold rstL
  split
  · rw [List.length_drop]; omega
  · simpa using hp

/-- What the rounds do with the lines, one by one. -/
structure Rounds (l b : Nat) (J : List UInt8 → World → Prop) (Jx : World → Prop) : Prop where
  keep : ∀ s W W', J s W → But b W W' → J s W'
  round : ∀ s W, s ≠ [] → J s W → b < W.heap.size → ∃ fn tmps assign body, (Instr.yield l #[.string (B (fstL s))]).run Tryd.prog W = .ok (.round l fn tmps assign body) W ∧
    RoundIn Fence.wide 0 Tryd.prog l fn tmps assign body W fun e W' => W'.os = W.os ∧ W'.tape = W.tape ∧ W'.output = W.output ∧ W.heap.size ≤ W'.heap.size ∧ W'.heap[b]? = W.heap[b]? ∧ ((e = .returned (.bool true) ∧ J (rstL s) W') ∨ (e = .returned (.bool false) ∧ Jx W'))
  keepx : ∀ W W', Jx W → But b W W' → Jx W'

theorem fst_yes {s : List UInt8} (h : Lib.indexByte s 10 ≥ 0) : fstL s = s.take ((Lib.indexByte s 10) + 1).toNat := by unfold fstL; rw [if_pos h]; congr 1; omega
theorem rst_yes {s : List UInt8} (h : Lib.indexByte s 10 ≥ 0) : rstL s = s.drop ((Lib.indexByte s 10) + 1).toNat := by unfold rstL; rw [if_pos h]; congr 1; omega
theorem fst_no {s : List UInt8} (h : Lib.indexByte s 10 < 0) : fstL s = s := by unfold fstL; rw [if_neg (by omega)]
theorem rst_no {s : List UInt8} (h : Lib.indexByte s 10 < 0) : rstL s = [] := by unfold rstL; rw [if_neg (by omega)]

theorem f29 (l b1 : Nat) (s0 : List UInt8) (J : List UInt8 → World → Prop) (Jx : World → Prop) (w : World) (hRd : Rounds l b1 J Jx) (hb : w.heap[b1]? = some (.cells #[.string (B s0)] 9 (0, 0))) (hl : s0.length ≤ 1000000) (h0 : J s0 w) :
    Calls Tryd.prog 29 #[.func (.yield l) #[] #[], .pointer (some ⟨b1, 0, none⟩)] w fun e w' => ∃ v, e = .returned v ∧ (w'.os = w.os ∧ w'.tape = w.tape ∧ w'.output = w.output) ∧ (J [] w' ∨ Jx w') := by
  refine Calls_of_VCg (args := [.func (.yield l) #[] #[], .pointer (some ⟨b1, 0, none⟩)]) ⟨[(0, .func (.yield l) #[] #[]), (1, .pointer (some ⟨b1, 0, none⟩))], [⟨b1, 9, [.string (B s0)]⟩]⟩ Tryd.func29 rfl (by kernel_rfl) (by kernel_rfl) (inv_bare (w := w) (cs := [.string (B s0)]) rfl rfl rfl hb) ?_
  refine VC_block ?_
  refine VC_keep [0, 1] [0] 1 ⟨[(0, .func (.yield l) #[] #[]), (1, .pointer (some ⟨b1, 0, none⟩))], [⟨b1, 9, [.string (B s0)]⟩]⟩ (by kernel_rfl) (by kernel_rfl) ?_
  refine VC_loop (J := fun m_ S' w' st_ => ∃ (s : List UInt8), (J s w') ∧ (w'.os = w.os ∧ w'.tape = w.tape ∧ w'.output = w.output) ∧ (∀ k, k < w'.heap.size → k ≠ b1 → S' k) ∧ (s.length ≤ 1000000) ∧ m_ = s.length ∧ st_ = ⟨[(0, .func (.yield l) #[] #[]), (1, .pointer (some ⟨b1, 0, none⟩))], [⟨b1, 9, [.string (B s)]⟩]⟩) (s0.length) ⟨s0, (by exact h0), (by exact ⟨rfl, rfl, rfl⟩), (by exact fun k h1 h2 => ⟨h1, h2⟩), (by exact hl), rfl, rfl⟩ ?_
  rintro _ S1 w2 _ ⟨s, hJ, ho, hSa, hq, rfl, rfl⟩
  obtain ⟨ho1, ho2, ho3⟩ := ho
  -- a round
  refine VC_seq ?_
  refine VC_go (hs := [0, 0, 0]) TOK [0, 1, 7] ⟨[(0, .func (.yield l) #[] #[]), (1, .pointer (some ⟨b1, 0, none⟩)), (7, .bool (decide ((s.length : Int) > 0)))], [⟨b1, 9, [.string (B s)]⟩]⟩ [b1] (by kernel_rfl) (by kernel_rfl) ?_
  refine VC_cond (decide ((s.length : Int) > 0)) (by kernel_rfl) (fun h4 => ?_) (fun h4 => ?_)
  · skip
    replace h4 := of_decide_eq_true h4
    refine VC_skip ?_
    refine KE_then ?_
    refine VC_block ?_
    refine VC_go (hs := [0]) TOK [0, 1, 3] ⟨[(0, .func (.yield l) #[] #[]), (1, .pointer (some ⟨b1, 0, none⟩)), (3, .string (B ([] : List UInt8)))], [⟨b1, 9, [.string (B s)]⟩]⟩ [] (by kernel_rfl) (by kernel_rfl) ?_
    refine VC_seq ?_
    refine VC_seq ?_
    refine VC_region 3 rfl ?_
    refine RV_go (hs := [0]) (c' := 2) (k' := 1) TOK [0, 1, 3, 8] ⟨[(0, .func (.yield l) #[] #[]), (1, .pointer (some ⟨b1, 0, none⟩)), (3, .string (B ([] : List UInt8))), (8, .string (B s))], [⟨b1, 9, [.string (B s)]⟩]⟩ [b1] (by kernel_rfl) (by kernel_rfl) ?_
    refine RV_call (c := 1) (f := 30) (vs := [.string (B s), .int .u8 10]) (dst := (some 9)) (by kernel_rfl) E30 (fun wa hxe hp => c30 s _ wa hp) ?_
    rintro S5 w6 v7 _ hx8 rfl
    refine RV_go (hs := [0]) (c' := 0) (k' := 3) TOK [0, 1, 3, 4] ⟨[(0, .func (.yield l) #[] #[]), (1, .pointer (some ⟨b1, 0, none⟩)), (3, .string (B ([] : List UInt8))), (4, .int .i64 (Lib.indexByte s 10))], [⟨b1, 9, [.string (B s)]⟩]⟩ [] (by kernel_rfl) (by kernel_rfl) ?_
    refine RV_end ?_
    refine KE_then ?_
    refine VC_go (hs := [0, 0]) TOK [0, 1, 3, 4, 11] ⟨[(0, .func (.yield l) #[] #[]), (1, .pointer (some ⟨b1, 0, none⟩)), (3, .string (B ([] : List UInt8))), (4, .int .i64 (Lib.indexByte s 10)), (11, .bool (decide ((Lib.indexByte s 10) ≥ 0)))], [⟨b1, 9, [.string (B s)]⟩]⟩ [] (by kernel_rfl) (by kernel_rfl) ?_
    refine VC_cond (decide ((Lib.indexByte s 10) ≥ 0)) (by kernel_rfl) (fun h9 => ?_) (fun h9 => ?_)
    · skip
      replace h9 := of_decide_eq_true h9
      refine VC_draw MIX [] 10 rfl ?_
      refine RVd_take (fuel' := 8) TOK [] [(1, 0), (2, 0)] [0, 1, 3, 4, 14] [] #[false, true, true, false, false, false, false, false, false, false] [(0, .func (.yield l) #[] #[]), (1, .pointer (some ⟨b1, 0, none⟩)), (3, .string (B ([] : List UInt8))), (4, .int .i64 (Lib.indexByte s 10)), (14, .int .i64 (IntKind.i64.wrap ((Lib.indexByte s 10) + 1)))] [] [] (by kernel_rfl) (by kernel_rfl) (by kernel_rfl) (by kernel_rfl) ROL_nil trivial ?_
      refine RVd_st ⟨[(0, .func (.yield l) #[] #[]), (1, .pointer (some ⟨b1, 0, none⟩)), (3, .string (B ([] : List UInt8))), (4, .int .i64 (Lib.indexByte s 10)), (14, .int .i64 ((Lib.indexByte s 10) + 1))], [⟨b1, 9, [.string (B s)]⟩]⟩ (by rw [wrap_id (x := (Lib.indexByte s 10) + 1) (by unfold InR; (have hix := index_lt s; omega))]) ?_
      refine RVd_take (fuel' := 6) TOK [] [(5, 0), (6, 0)] [0, 1, 3, 14, 18] [] #[false, true, true, false, false, true, true, false, false, false] [(0, .func (.yield l) #[] #[]), (1, .pointer (some ⟨b1, 0, none⟩)), (3, .string (B ([] : List UInt8))), (14, .int .i64 ((Lib.indexByte s 10) + 1)), (18, .int .i64 (IntKind.i64.wrap ((Lib.indexByte s 10) + 1)))] [] [] (by kernel_rfl) (by kernel_rfl) (by kernel_rfl) (by kernel_rfl) ROL_nil trivial ?_
      refine RVd_st ⟨[(0, .func (.yield l) #[] #[]), (1, .pointer (some ⟨b1, 0, none⟩)), (3, .string (B ([] : List UInt8))), (14, .int .i64 ((Lib.indexByte s 10) + 1)), (18, .int .i64 ((Lib.indexByte s 10) + 1))], [⟨b1, 9, [.string (B s)]⟩]⟩ (by rw [wrap_id (x := (Lib.indexByte s 10) + 1) (by unfold InR; (have hix := index_lt s; omega))]) ?_
      refine RVd_step2 (fuel := 5) TOK 0 4 0 0 [0, 1, 3, 12, 14, 18] [0, 1, 3, 14, 16, 18] [] [] #[true, true, true, false, false, true, true, false, false, false] #[false, true, true, false, true, true, true, false, false, false] ⟨[(0, .func (.yield l) #[] #[]), (1, .pointer (some ⟨b1, 0, none⟩)), (3, .string (B ([] : List UInt8))), (12, .string (B s)), (14, .int .i64 ((Lib.indexByte s 10) + 1)), (18, .int .i64 ((Lib.indexByte s 10) + 1))], [⟨b1, 9, [.string (B s)]⟩]⟩ ⟨[(0, .func (.yield l) #[] #[]), (1, .pointer (some ⟨b1, 0, none⟩)), (3, .string (B ([] : List UInt8))), (14, .int .i64 ((Lib.indexByte s 10) + 1)), (16, .string (B s)), (18, .int .i64 ((Lib.indexByte s 10) + 1))], [⟨b1, 9, [.string (B s)]⟩]⟩ [b1] [b1] (by kernel_rfl) (by kernel_rfl) (by kernel_rfl) (by kernel_rfl) (by kernel_rfl) (by kernel_rfl) (by kernel_rfl) ?_ ?_
      · skip
        refine RVd_take (fuel' := 4) TOK [] [(3, 0)] [0, 1, 3, 15, 18] [] #[true, true, true, true, false, true, true, false, false, false] [(0, .func (.yield l) #[] #[]), (1, .pointer (some ⟨b1, 0, none⟩)), (3, .string (B ([] : List UInt8))), (15, .string ((B s).extract 0 ((Lib.indexByte s 10) + 1).toNat)), (18, .int .i64 ((Lib.indexByte s 10) + 1))] [] [.le ((Lib.indexByte s 10) + 1) s.length] (by kernel_rfl) (by kernel_rfl) (by kernel_rfl) (by kernel_rfl) ROL_nil (by simp only [Conds, Cond.holds, and_true]; (have hix := index_lt s; omega)) ?_
        refine RVd_st ⟨[(0, .func (.yield l) #[] #[]), (1, .pointer (some ⟨b1, 0, none⟩)), (3, .string (B ([] : List UInt8))), (15, .string (B (s.take ((Lib.indexByte s 10) + 1).toNat))), (18, .int .i64 ((Lib.indexByte s 10) + 1))], [⟨b1, 9, [.string (B s)]⟩]⟩ (by rw [B_ext0 s ((Lib.indexByte s 10) + 1).toNat]) ?_
        refine RVd_take (fuel' := 3) TOK [] [(8, 0)] [0, 1, 3, 18] [] #[true, true, true, true, false, true, true, false, true, false] [(0, .func (.yield l) #[] #[]), (1, .pointer (some ⟨b1, 0, none⟩)), (3, .string (B (s.take ((Lib.indexByte s 10) + 1).toNat))), (18, .int .i64 ((Lib.indexByte s 10) + 1))] [] [] (by kernel_rfl) (by kernel_rfl) (by kernel_rfl) (by kernel_rfl) ROL_nil trivial ?_
        refine RVd_step (fuel := 2) TOK 4 0 [0, 1, 3, 16, 18] [] #[true, true, true, true, true, true, true, false, true, false] ⟨[(0, .func (.yield l) #[] #[]), (1, .pointer (some ⟨b1, 0, none⟩)), (3, .string (B (s.take ((Lib.indexByte s 10) + 1).toNat))), (16, .string (B s)), (18, .int .i64 ((Lib.indexByte s 10) + 1))], [⟨b1, 9, [.string (B s)]⟩]⟩ [b1] (by kernel_rfl) (by kernel_rfl) (by kernel_rfl) (by kernel_rfl) ?_
        refine RVd_take (fuel' := 1) TOK [] [(7, 0)] [0, 1, 3, 19] [] #[true, true, true, true, true, true, true, true, true, false] [(0, .func (.yield l) #[] #[]), (1, .pointer (some ⟨b1, 0, none⟩)), (3, .string (B (s.take ((Lib.indexByte s 10) + 1).toNat))), (19, .string ((B s).extract ((Lib.indexByte s 10) + 1).toNat s.length))] [] [.le ((Lib.indexByte s 10) + 1) s.length] (by kernel_rfl) (by kernel_rfl) (by kernel_rfl) (by kernel_rfl) ROL_nil (by simp only [Conds, Cond.holds, and_true]; (have hix := index_lt s; omega)) ?_
        refine RVd_st ⟨[(0, .func (.yield l) #[] #[]), (1, .pointer (some ⟨b1, 0, none⟩)), (3, .string (B (s.take ((Lib.indexByte s 10) + 1).toNat))), (19, .string (B (s.drop ((Lib.indexByte s 10) + 1).toNat)))], [⟨b1, 9, [.string (B s)]⟩]⟩ (by rw [B_drop s ((Lib.indexByte s 10) + 1).toNat]) ?_
        refine RVd_step (fuel := 0) TOK 9 0 [0, 1, 3] [] #[true, true, true, true, true, true, true, true, true, true] ⟨[(0, .func (.yield l) #[] #[]), (1, .pointer (some ⟨b1, 0, none⟩)), (3, .string (B (s.take ((Lib.indexByte s 10) + 1).toNat)))], [⟨b1, 9, [.string (B (s.drop ((Lib.indexByte s 10) + 1).toNat))]⟩]⟩ [b1] (by kernel_rfl) (by kernel_rfl) (by kernel_rfl) (by kernel_rfl) ?_
        refine RVd_end (by kernel_rfl) ?_
        refine KE_then ?_
        refine VC_seq ?_
        refine VC_yield (l := l) (x := .string (B (s.take ((Lib.indexByte s 10) + 1).toNat))) rfl rfl (by kernel_rfl) (by decide) (by decide) (fun wa hI => ?_)
        have hbut := but_of (b := b1) hI (hx8.trans (Ext.refl _ _)) hSa ⟨_, List.mem_cons_self, rfl⟩ ho1 ho2 ho3
        obtain ⟨fn, tmps, assign, body, hy, hR⟩ := hRd.round s wa (List.length_pos_iff.1 (by omega)) (hRd.keep _ _ _ hJ hbut) (hI.id_lt List.mem_cons_self)
        have hbb := hI.own _ List.mem_cons_self
        have hb0 := hI.base
        rw [fst_yes (by omega)] at hy
        refine ⟨fn, tmps, assign, body, hy, hR.mono ?_⟩
        rintro e w' ⟨q1, q2, q3, q4, q5, (⟨rfl, hJ2⟩ | ⟨rfl, hJx⟩)⟩
        · skip
          refine ⟨true, rfl, AllBut b1 w', w', [⟨b1, 9, [.string (B (s.drop ((Lib.indexByte s 10) + 1).toNat))]⟩], inv_bare (w := w) (q1.trans hb0.os) (q2.trans hb0.tape) (q3.trans hb0.output) (q5.trans hbb), ?_⟩
          rw [rst_yes (by omega)] at hJ2
          refine KE_keep [0, 1, 24] [0] 1 ⟨[(0, .func (.yield l) #[] #[]), (1, .pointer (some ⟨b1, 0, none⟩)), (24, .bool false)], [⟨b1, 9, [.string (B (s.drop ((Lib.indexByte s 10) + 1).toNat))]⟩]⟩ (by kernel_rfl) (by kernel_rfl) ?_
          refine KE_then ?_
          refine VC_false (by kernel_rfl) ?_
          refine VC_skip ?_
          refine KE_block ?_
          refine KE_rnd ((s.drop ((Lib.indexByte s 10) + 1).toNat).length) [0, 1] [0] 1 ⟨[(0, .func (.yield l) #[] #[]), (1, .pointer (some ⟨b1, 0, none⟩))], [⟨b1, 9, [.string (B (s.drop ((Lib.indexByte s 10) + 1).toNat))]⟩]⟩ (by kernel_rfl) (by kernel_rfl) (by simp only [List.length_drop, List.length_nil] <;> omega) ⟨(s.drop ((Lib.indexByte s 10) + 1).toNat), (by exact hJ2), (by exact ⟨q1.trans hb0.os, q2.trans hb0.tape, q3.trans hb0.output⟩), (by exact fun k h1 h2 => ⟨h1, h2⟩), (by simp only [List.length_drop, List.length_nil] <;> omega), rfl, rfl⟩
        · skip
          refine ⟨false, rfl, AllBut b1 w', w', [⟨b1, 9, [.string (B (s.drop ((Lib.indexByte s 10) + 1).toNat))]⟩], inv_bare (w := w) (q1.trans hb0.os) (q2.trans hb0.tape) (q3.trans hb0.output) (q5.trans hbb), ?_⟩
          refine KE_keep [0, 1, 24] [0] 1 ⟨[(0, .func (.yield l) #[] #[]), (1, .pointer (some ⟨b1, 0, none⟩)), (24, .bool true)], [⟨b1, 9, [.string (B (s.drop ((Lib.indexByte s 10) + 1).toNat))]⟩]⟩ (by kernel_rfl) (by kernel_rfl) ?_
          refine KE_then ?_
          refine VC_true (by kernel_rfl) ?_
          refine VC_fin TOK [] [] [] (by kernel_rfl) (fun wa9 hI9 => ?_)
          refine ⟨_, rfl, ?_, .inr (hRd.keepx _ _ hJx (but_of (b := b1) hI9 (Ext.refl _ _) (fun k h1 h2 => ⟨h1, h2⟩) ⟨_, List.mem_cons_self, rfl⟩ (q1.trans hb0.os) (q2.trans hb0.tape) (q3.trans hb0.output)))⟩
          exact ⟨hI9.base.os, hI9.base.tape, hI9.base.output⟩
      · skip
        refine RVd_take (fuel' := 4) TOK [] [(7, 0)] [0, 1, 3, 14, 19] [] #[false, true, true, false, true, true, true, true, false, false] [(0, .func (.yield l) #[] #[]), (1, .pointer (some ⟨b1, 0, none⟩)), (3, .string (B ([] : List UInt8))), (14, .int .i64 ((Lib.indexByte s 10) + 1)), (19, .string ((B s).extract ((Lib.indexByte s 10) + 1).toNat s.length))] [] [.le ((Lib.indexByte s 10) + 1) s.length] (by kernel_rfl) (by kernel_rfl) (by kernel_rfl) (by kernel_rfl) ROL_nil (by simp only [Conds, Cond.holds, and_true]; (have hix := index_lt s; omega)) ?_
        refine RVd_st ⟨[(0, .func (.yield l) #[] #[]), (1, .pointer (some ⟨b1, 0, none⟩)), (3, .string (B ([] : List UInt8))), (14, .int .i64 ((Lib.indexByte s 10) + 1)), (19, .string (B (s.drop ((Lib.indexByte s 10) + 1).toNat)))], [⟨b1, 9, [.string (B s)]⟩]⟩ (by rw [B_drop s ((Lib.indexByte s 10) + 1).toNat]) ?_
        refine RVd_step (fuel := 3) TOK 0 0 [0, 1, 3, 12, 14, 19] [] #[true, true, true, false, true, true, true, true, false, false] ⟨[(0, .func (.yield l) #[] #[]), (1, .pointer (some ⟨b1, 0, none⟩)), (3, .string (B ([] : List UInt8))), (12, .string (B s)), (14, .int .i64 ((Lib.indexByte s 10) + 1)), (19, .string (B (s.drop ((Lib.indexByte s 10) + 1).toNat)))], [⟨b1, 9, [.string (B s)]⟩]⟩ [b1] (by kernel_rfl) (by kernel_rfl) (by kernel_rfl) (by kernel_rfl) ?_
        refine RVd_take (fuel' := 2) TOK [] [(3, 0)] [0, 1, 3, 15, 19] [] #[true, true, true, true, true, true, true, true, false, false] [(0, .func (.yield l) #[] #[]), (1, .pointer (some ⟨b1, 0, none⟩)), (3, .string (B ([] : List UInt8))), (15, .string ((B s).extract 0 ((Lib.indexByte s 10) + 1).toNat)), (19, .string (B (s.drop ((Lib.indexByte s 10) + 1).toNat)))] [] [.le ((Lib.indexByte s 10) + 1) s.length] (by kernel_rfl) (by kernel_rfl) (by kernel_rfl) (by kernel_rfl) ROL_nil (by simp only [Conds, Cond.holds, and_true]; (have hix := index_lt s; omega)) ?_
        refine RVd_st ⟨[(0, .func (.yield l) #[] #[]), (1, .pointer (some ⟨b1, 0, none⟩)), (3, .string (B ([] : List UInt8))), (15, .string (B (s.take ((Lib.indexByte s 10) + 1).toNat))), (19, .string (B (s.drop ((Lib.indexByte s 10) + 1).toNat)))], [⟨b1, 9, [.string (B s)]⟩]⟩ (by rw [B_ext0 s ((Lib.indexByte s 10) + 1).toNat]) ?_
        refine RVd_take (fuel' := 1) TOK [] [(8, 0)] [0, 1, 3, 19] [] #[true, true, true, true, true, true, true, true, true, false] [(0, .func (.yield l) #[] #[]), (1, .pointer (some ⟨b1, 0, none⟩)), (3, .string (B (s.take ((Lib.indexByte s 10) + 1).toNat))), (19, .string (B (s.drop ((Lib.indexByte s 10) + 1).toNat)))] [] [] (by kernel_rfl) (by kernel_rfl) (by kernel_rfl) (by kernel_rfl) ROL_nil trivial ?_
        refine RVd_step (fuel := 0) TOK 9 0 [0, 1, 3] [] #[true, true, true, true, true, true, true, true, true, true] ⟨[(0, .func (.yield l) #[] #[]), (1, .pointer (some ⟨b1, 0, none⟩)), (3, .string (B (s.take ((Lib.indexByte s 10) + 1).toNat)))], [⟨b1, 9, [.string (B (s.drop ((Lib.indexByte s 10) + 1).toNat))]⟩]⟩ [b1] (by kernel_rfl) (by kernel_rfl) (by kernel_rfl) (by kernel_rfl) ?_
        refine RVd_end (by kernel_rfl) ?_
        refine KE_then ?_
        refine VC_seq ?_
        refine VC_yield (l := l) (x := .string (B (s.take ((Lib.indexByte s 10) + 1).toNat))) rfl rfl (by kernel_rfl) (by decide) (by decide) (fun wa hI => ?_)
        have hbut := but_of (b := b1) hI (hx8.trans (Ext.refl _ _)) hSa ⟨_, List.mem_cons_self, rfl⟩ ho1 ho2 ho3
        obtain ⟨fn, tmps, assign, body, hy, hR⟩ := hRd.round s wa (List.length_pos_iff.1 (by omega)) (hRd.keep _ _ _ hJ hbut) (hI.id_lt List.mem_cons_self)
        have hbb := hI.own _ List.mem_cons_self
        have hb0 := hI.base
        rw [fst_yes (by omega)] at hy
        refine ⟨fn, tmps, assign, body, hy, hR.mono ?_⟩
        rintro e w' ⟨q1, q2, q3, q4, q5, (⟨rfl, hJ2⟩ | ⟨rfl, hJx⟩)⟩
        · skip
          refine ⟨true, rfl, AllBut b1 w', w', [⟨b1, 9, [.string (B (s.drop ((Lib.indexByte s 10) + 1).toNat))]⟩], inv_bare (w := w) (q1.trans hb0.os) (q2.trans hb0.tape) (q3.trans hb0.output) (q5.trans hbb), ?_⟩
          rw [rst_yes (by omega)] at hJ2
          refine KE_keep [0, 1, 24] [0] 1 ⟨[(0, .func (.yield l) #[] #[]), (1, .pointer (some ⟨b1, 0, none⟩)), (24, .bool false)], [⟨b1, 9, [.string (B (s.drop ((Lib.indexByte s 10) + 1).toNat))]⟩]⟩ (by kernel_rfl) (by kernel_rfl) ?_
          refine KE_then ?_
          refine VC_false (by kernel_rfl) ?_
          refine VC_skip ?_
          refine KE_block ?_
          refine KE_rnd ((s.drop ((Lib.indexByte s 10) + 1).toNat).length) [0, 1] [0] 1 ⟨[(0, .func (.yield l) #[] #[]), (1, .pointer (some ⟨b1, 0, none⟩))], [⟨b1, 9, [.string (B (s.drop ((Lib.indexByte s 10) + 1).toNat))]⟩]⟩ (by kernel_rfl) (by kernel_rfl) (by simp only [List.length_drop, List.length_nil] <;> omega) ⟨(s.drop ((Lib.indexByte s 10) + 1).toNat), (by exact hJ2), (by exact ⟨q1.trans hb0.os, q2.trans hb0.tape, q3.trans hb0.output⟩), (by exact fun k h1 h2 => ⟨h1, h2⟩), (by simp only [List.length_drop, List.length_nil] <;> omega), rfl, rfl⟩
        · skip
          refine ⟨false, rfl, AllBut b1 w', w', [⟨b1, 9, [.string (B (s.drop ((Lib.indexByte s 10) + 1).toNat))]⟩], inv_bare (w := w) (q1.trans hb0.os) (q2.trans hb0.tape) (q3.trans hb0.output) (q5.trans hbb), ?_⟩
          refine KE_keep [0, 1, 24] [0] 1 ⟨[(0, .func (.yield l) #[] #[]), (1, .pointer (some ⟨b1, 0, none⟩)), (24, .bool true)], [⟨b1, 9, [.string (B (s.drop ((Lib.indexByte s 10) + 1).toNat))]⟩]⟩ (by kernel_rfl) (by kernel_rfl) ?_
          refine KE_then ?_
          refine VC_true (by kernel_rfl) ?_
          refine VC_fin TOK [] [] [] (by kernel_rfl) (fun wa9 hI9 => ?_)
          refine ⟨_, rfl, ?_, .inr (hRd.keepx _ _ hJx (but_of (b := b1) hI9 (Ext.refl _ _) (fun k h1 h2 => ⟨h1, h2⟩) ⟨_, List.mem_cons_self, rfl⟩ (q1.trans hb0.os) (q2.trans hb0.tape) (q3.trans hb0.output)))⟩
          exact ⟨hI9.base.os, hI9.base.tape, hI9.base.output⟩
    · skip
      replace h9 := of_decide_eq_false h9
      refine VC_region 3 rfl ?_
      refine RV_go (hs := [0, 0, 0]) (c' := 0) (k' := 3) TOK [0, 1, 3] ⟨[(0, .func (.yield l) #[] #[]), (1, .pointer (some ⟨b1, 0, none⟩)), (3, .string (B s))], [⟨b1, 9, [.string (B ([] : List UInt8))]⟩]⟩ [b1, b1] (by kernel_rfl) (by kernel_rfl) ?_
      refine RV_end ?_
      refine KE_then ?_
      refine VC_seq ?_
      refine VC_yield (l := l) (x := .string (B s)) rfl rfl (by kernel_rfl) (by decide) (by decide) (fun wa hI => ?_)
      have hbut := but_of (b := b1) hI (hx8.trans (Ext.refl _ _)) hSa ⟨_, List.mem_cons_self, rfl⟩ ho1 ho2 ho3
      obtain ⟨fn, tmps, assign, body, hy, hR⟩ := hRd.round s wa (List.length_pos_iff.1 (by omega)) (hRd.keep _ _ _ hJ hbut) (hI.id_lt List.mem_cons_self)
      have hbb := hI.own _ List.mem_cons_self
      have hb0 := hI.base
      rw [fst_no (by omega)] at hy
      refine ⟨fn, tmps, assign, body, hy, hR.mono ?_⟩
      rintro e w' ⟨q1, q2, q3, q4, q5, (⟨rfl, hJ2⟩ | ⟨rfl, hJx⟩)⟩
      · skip
        refine ⟨true, rfl, AllBut b1 w', w', [⟨b1, 9, [.string (B ([] : List UInt8))]⟩], inv_bare (w := w) (q1.trans hb0.os) (q2.trans hb0.tape) (q3.trans hb0.output) (q5.trans hbb), ?_⟩
        rw [rst_no (by omega)] at hJ2
        refine KE_keep [0, 1, 24] [0] 1 ⟨[(0, .func (.yield l) #[] #[]), (1, .pointer (some ⟨b1, 0, none⟩)), (24, .bool false)], [⟨b1, 9, [.string (B ([] : List UInt8))]⟩]⟩ (by kernel_rfl) (by kernel_rfl) ?_
        refine KE_then ?_
        refine VC_false (by kernel_rfl) ?_
        refine VC_skip ?_
        refine KE_block ?_
        refine KE_rnd (([] : List UInt8).length) [0, 1] [0] 1 ⟨[(0, .func (.yield l) #[] #[]), (1, .pointer (some ⟨b1, 0, none⟩))], [⟨b1, 9, [.string (B ([] : List UInt8))]⟩]⟩ (by kernel_rfl) (by kernel_rfl) (by simp only [List.length_drop, List.length_nil] <;> omega) ⟨([] : List UInt8), (by exact hJ2), (by exact ⟨q1.trans hb0.os, q2.trans hb0.tape, q3.trans hb0.output⟩), (by exact fun k h1 h2 => ⟨h1, h2⟩), (by simp only [List.length_drop, List.length_nil] <;> omega), rfl, rfl⟩
      · skip
        refine ⟨false, rfl, AllBut b1 w', w', [⟨b1, 9, [.string (B ([] : List UInt8))]⟩], inv_bare (w := w) (q1.trans hb0.os) (q2.trans hb0.tape) (q3.trans hb0.output) (q5.trans hbb), ?_⟩
        refine KE_keep [0, 1, 24] [0] 1 ⟨[(0, .func (.yield l) #[] #[]), (1, .pointer (some ⟨b1, 0, none⟩)), (24, .bool true)], [⟨b1, 9, [.string (B ([] : List UInt8))]⟩]⟩ (by kernel_rfl) (by kernel_rfl) ?_
        refine KE_then ?_
        refine VC_true (by kernel_rfl) ?_
        refine VC_fin TOK [] [] [] (by kernel_rfl) (fun wa9 hI9 => ?_)
        refine ⟨_, rfl, ?_, .inr (hRd.keepx _ _ hJx (but_of (b := b1) hI9 (Ext.refl _ _) (fun k h1 h2 => ⟨h1, h2⟩) ⟨_, List.mem_cons_self, rfl⟩ (q1.trans hb0.os) (q2.trans hb0.tape) (q3.trans hb0.output)))⟩
        exact ⟨hI9.base.os, hI9.base.tape, hI9.base.output⟩
  · skip
    replace h4 := of_decide_eq_false h4
    refine VC_exit ?_
    refine KE_exit_then ?_
    refine KE_exit_then ?_
    refine KE_exit_here ?_
    refine KE_fin TOK [] [] [] (by kernel_rfl) (fun wa9 hI9 => ?_)
    refine ⟨_, rfl, ?_, .inl ?_⟩
    · exact ⟨hI9.base.os, hI9.base.tape, hI9.base.output⟩
    · have hs0 : s = [] := List.eq_nil_of_length_eq_zero (by omega)
      subst hs0
      exact hRd.keep _ _ _ hJ (but_of (b := b1) hI9 (Ext.refl _ _) hSa ⟨_, List.mem_cons_self, rfl⟩ ho1 ho2 ho3)

end Go.YtmfkmoecbnghhaaDoor
