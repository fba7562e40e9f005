/- Contracts of functions, over the symbolic executor: each comes to what its theorem says. Written by gen.py, a program of this work. -/
import Derived.Test.YtmfkmoecbnghhaaDoorA3
namespace Go.YtmfkmoecbnghhaaDoor
open Go Eng Go.Proofs Law
set_option linter.unusedVariables false
set_option linter.unusedSimpArgs false

theorem f36b (l : List UInt8) (p : Nat) (e : UInt8) (y x : Int) (S : Nat → Prop) (w : World) (hP : Pre S w []) (hy : y = (p : Int)) (hx : x = (e.toNat : Int)) (hpl : p ≤ l.length) (hl : l.length ≤ 1000000) (he : ¬ Dig e) :
    Calls Tryd.prog 36 #[.string (B l), .int .i64 y, .int .u8 x] w (Ret S w [] fun v ls S w => ∃ k r, v = .tuple #[.int .i64 k, .int .i64 r] ∧ NumR l p e k r) := by
  subst hy hx
  exact f36 l p e S w hP hpl hl he
theorem no_next {l : List UInt8} {p k : Nat} (hno : ∀ j, j < k → ¬ ((l.take (p + (wordL j ++ [32]).length)).drop p = wordL j ++ [32]))
    (h : ¬ ((l.length : Int) - (p : Int) ≥ ((wordL k ++ [32]).length : Int)) ∨ (l.take (p + (wordL k ++ [32]).length)).drop p ≠ wordL k ++ [32]) :
    ∀ j, j < k + 1 → ¬ ((l.take (p + (wordL j ++ [32]).length)).drop p = wordL j ++ [32]) := by
  intro j hj e
  rcases Nat.lt_or_ge j k with h1 | h1
  · exact hno j h1 e
  · have : j = k := by omega
    subst this
    rcases h with h | h
    · have := congrArg List.length e
      rw [List.length_drop, List.length_take] at this
      simp only [List.length_append, List.length_singleton] at this h
      omega
    · exact h e

theorem f20 (l : List UInt8) (p : Nat) (S : Nat → Prop) (w : World) (hP : Pre S w []) (hpl : p ≤ l.length) (hl : l.length ≤ 1000000) :
    Calls Tryd.prog 20 #[.string (B l), .int .i64 (p : Int)] w (Ret S w [] fun v_ ls_ S_ w_ => ∃ c r, v_ = .tuple #[.agg #[.int .i64 c.no, .int .i64 c.a, .int .i64 c.b], .int .i64 r] ∧ OneR l p c r) := by
  refine Calls_of_VC (ls := []) ⟨[(0, .string (B l)), (1, .int .i64 (p : Int))], []⟩ Tryd.func20 rfl (by kernel_rfl) (by kernel_rfl) hP ?_
  refine VC_seq ?_
  refine VC_region 2 rfl ?_
  refine RV_new (c := 1) TOK [0, 1, 4] (fun b1 => ⟨[(0, .string (B l)), (1, .int .i64 (p : Int)), (4, .pointer (some ⟨b1, 0, none⟩))], [⟨b1, 36, [.int .i64 0, .int .i64 0, .int .i64 0]⟩]⟩) (fun _ => by kernel_rfl) (fun b1 => ?_)
  refine RV_go (hs := [0]) (c' := 0) (k' := 2) TOK [0, 1, 4, 5] ⟨[(0, .string (B l)), (1, .int .i64 (p : Int)), (4, .pointer (some ⟨b1, 0, none⟩)), (5, .int .i64 0)], [⟨b1, 36, [.int .i64 0, .int .i64 0, .int .i64 0]⟩]⟩ [] (by kernel_rfl) (by kernel_rfl) ?_
  refine RV_end ?_
  refine KE_then ?_
  refine VC_seq ?_
  refine VC_go (hs := [0]) TOK [0, 1, 4, 5, 6] ⟨[(0, .string (B l)), (1, .int .i64 (p : Int)), (4, .pointer (some ⟨b1, 0, none⟩)), (5, .int .i64 0), (6, .int .i64 0)], [⟨b1, 36, [.int .i64 0, .int .i64 0, .int .i64 0]⟩]⟩ [] (by kernel_rfl) (by kernel_rfl) ?_
  refine VC_block ?_
  refine VC_keep [0, 1, 4, 6] [0] 1 ⟨[(0, .string (B l)), (1, .int .i64 (p : Int)), (4, .pointer (some ⟨b1, 0, none⟩)), (6, .int .i64 (0 : Int))], [⟨b1, 36, [.int .i64 0, .int .i64 0, .int .i64 0]⟩]⟩ (by kernel_rfl) (by kernel_rfl) ?_
  refine VC_loop (J := fun m_ S' w' st_ => ∃ (k : Nat), (k ≤ 10) ∧ (∀ j, j < k → ¬ ((l.take (p + (wordL j ++ [32]).length)).drop p = wordL j ++ [32])) ∧ m_ = 10 - k ∧ Ext S w S' w' ∧ st_ = ⟨[(0, .string (B l)), (1, .int .i64 (p : Int)), (4, .pointer (some ⟨b1, 0, none⟩)), (6, .int .i64 (k : Int))], [⟨b1, 36, [.int .i64 0, .int .i64 0, .int .i64 0]⟩]⟩) (10 - 0) ⟨0, (by omega), (by exact fun j hj => absurd hj (Nat.not_lt_zero j)), rfl, Ext.refl _ _, rfl⟩ ?_
  rintro _ S2 w3 _ ⟨k, hk, hno, rfl, hx4, rfl⟩
  -- a round
  refine VC_seq ?_
  refine VC_go (hs := [0, 0]) TOK [0, 1, 4, 6, 13] ⟨[(0, .string (B l)), (1, .int .i64 (p : Int)), (4, .pointer (some ⟨b1, 0, none⟩)), (6, .int .i64 (k : Int)), (13, .bool (decide ((k : Int) < 10)))], [⟨b1, 36, [.int .i64 0, .int .i64 0, .int .i64 0]⟩]⟩ [] (by kernel_rfl) (by kernel_rfl) ?_
  refine VC_cond (decide ((k : Int) < 10)) (by kernel_rfl) (fun h5 => ?_) (fun h5 => ?_)
  · skip
    replace h5 := of_decide_eq_true h5
    refine VC_skip ?_
    refine KE_then ?_
    refine VC_seq ?_
    refine VC_block ?_
    refine VC_seq ?_
    refine VC_region 4 rfl ?_
    refine RV_go (hs := [0]) (c' := 3) (k' := 1) TOK [0, 1, 4, 6, 16] ⟨[(0, .string (B l)), (1, .int .i64 (p : Int)), (4, .pointer (some ⟨b1, 0, none⟩)), (6, .int .i64 (k : Int)), (16, .int .i64 (k : Int))], [⟨b1, 36, [.int .i64 0, .int .i64 0, .int .i64 0]⟩]⟩ [] (by kernel_rfl) (by kernel_rfl) ?_
    refine RV_call (c := 2) (f := 26) (vs := [.int .i64 (k : Int)]) (dst := (some 17)) (by kernel_rfl) E26 (fun wa hxe hp => f26 k (by omega) _ wa hp) ?_
    rintro S6 w7 v8 _ hx9 rfl
    refine RV_run (hs := [0]) (c' := 1) (k' := 3) TOK [] [0, 1, 4, 6, 18] ⟨[(0, .string (B l)), (1, .int .i64 (p : Int)), (4, .pointer (some ⟨b1, 0, none⟩)), (6, .int .i64 (k : Int)), (18, .string (B (wordL k) ++ B ([32] : List UInt8)))], [⟨b1, 36, [.int .i64 0, .int .i64 0, .int .i64 0]⟩]⟩ [] [.sz ((wordL k).length + ([32] : List UInt8).length)] (by kernel_rfl) (by kernel_rfl) ROS_nil (by simp only [Conds, Cond.holds, and_true]; first | omega | (have := word_len k (by omega); simp only [List.length_append, List.length_singleton, List.length_cons, List.length_nil] at *; omega)) ?_
    refine RV_st ⟨[(0, .string (B l)), (1, .int .i64 (p : Int)), (4, .pointer (some ⟨b1, 0, none⟩)), (6, .int .i64 (k : Int)), (18, .string (B ((wordL k) ++ ([32] : List UInt8))))], [⟨b1, 36, [.int .i64 0, .int .i64 0, .int .i64 0]⟩]⟩ (by rw [B_app (wordL k) ([32] : List UInt8)]) ?_
    refine RV_go (hs := [0]) (c' := 0) (k' := 4) TOK [0, 1, 4, 6, 7] ⟨[(0, .string (B l)), (1, .int .i64 (p : Int)), (4, .pointer (some ⟨b1, 0, none⟩)), (6, .int .i64 (k : Int)), (7, .string (B ((wordL k) ++ ([32] : List UInt8))))], [⟨b1, 36, [.int .i64 0, .int .i64 0, .int .i64 0]⟩]⟩ [] (by kernel_rfl) (by kernel_rfl) ?_
    refine RV_end ?_
    refine KE_then ?_
    refine VC_seq ?_
    refine VC_region 18 rfl ?_
    refine RV_go (hs := [0, 0, 0, 0]) (c' := 14) (k' := 4) TOK [0, 1, 4, 6, 7, 22] ⟨[(0, .string (B l)), (1, .int .i64 (p : Int)), (4, .pointer (some ⟨b1, 0, none⟩)), (6, .int .i64 (k : Int)), (7, .string (B ((wordL k) ++ ([32] : List UInt8)))), (22, .int .i64 (IntKind.i64.wrap ((l.length : Int) - (p : Int))))], [⟨b1, 36, [.int .i64 0, .int .i64 0, .int .i64 0]⟩]⟩ [] (by kernel_rfl) (by kernel_rfl) ?_
    refine RV_st ⟨[(0, .string (B l)), (1, .int .i64 (p : Int)), (4, .pointer (some ⟨b1, 0, none⟩)), (6, .int .i64 (k : Int)), (7, .string (B ((wordL k) ++ ([32] : List UInt8)))), (22, .int .i64 ((l.length : Int) - (p : Int)))], [⟨b1, 36, [.int .i64 0, .int .i64 0, .int .i64 0]⟩]⟩ (by rw [wrap_id (x := (l.length : Int) - (p : Int)) (by unfold InR; first | omega | (have := word_len k (by omega); simp only [List.length_append, List.length_singleton]; omega))]) ?_
    refine RV_go (hs := [0, 0, 0, 0]) (c' := 10) (k' := 8) TOK [0, 1, 4, 6, 7, 26] ⟨[(0, .string (B l)), (1, .int .i64 (p : Int)), (4, .pointer (some ⟨b1, 0, none⟩)), (6, .int .i64 (k : Int)), (7, .string (B ((wordL k) ++ ([32] : List UInt8)))), (26, .bool (decide (((l.length : Int) - (p : Int)) ≥ (((wordL k) ++ ([32] : List UInt8)).length : Int))))], [⟨b1, 36, [.int .i64 0, .int .i64 0, .int .i64 0]⟩]⟩ [] (by kernel_rfl) (by kernel_rfl) ?_
    refine RV_case (decide (((l.length : Int) - (p : Int)) ≥ (((wordL k) ++ ([32] : List UInt8)).length : Int))) (fun bb => ⟨[(0, .string (B l)), (1, .int .i64 (p : Int)), (4, .pointer (some ⟨b1, 0, none⟩)), (6, .int .i64 (k : Int)), (7, .string (B ((wordL k) ++ ([32] : List UInt8)))), (26, .bool bb)], [⟨b1, 36, [.int .i64 0, .int .i64 0, .int .i64 0]⟩]⟩) (by kernel_rfl) (fun h10 => ?_) (fun h10 => ?_)
    · skip
      replace h10 := of_decide_eq_true h10
      refine RV_go (hs := [0, 0, 0, 0, 0, 0]) (c' := 4) (k' := 14) TOK [0, 1, 4, 6, 7, 26, 27, 28, 32] ⟨[(0, .string (B l)), (1, .int .i64 (p : Int)), (4, .pointer (some ⟨b1, 0, none⟩)), (6, .int .i64 (k : Int)), (7, .string (B ((wordL k) ++ ([32] : List UInt8)))), (26, .bool true), (27, .string (B l)), (28, .int .i64 (p : Int)), (32, .int .i64 (IntKind.i64.wrap ((p : Int) + (((wordL k) ++ ([32] : List UInt8)).length : Int))))], [⟨b1, 36, [.int .i64 0, .int .i64 0, .int .i64 0]⟩]⟩ [] (by kernel_rfl) (by kernel_rfl) ?_
      refine RV_st ⟨[(0, .string (B l)), (1, .int .i64 (p : Int)), (4, .pointer (some ⟨b1, 0, none⟩)), (6, .int .i64 (k : Int)), (7, .string (B ((wordL k) ++ ([32] : List UInt8)))), (26, .bool true), (27, .string (B l)), (28, .int .i64 (p : Int)), (32, .int .i64 ((p + (wordL k ++ ([32] : List UInt8)).length : Nat) : Int))], [⟨b1, 36, [.int .i64 0, .int .i64 0, .int .i64 0]⟩]⟩ (by rw [show IntKind.i64.wrap ((p : Int) + ((wordL k ++ ([32] : List UInt8)).length : Int)) = ((p + (wordL k ++ ([32] : List UInt8)).length : Nat) : Int) from (by rw [wrap_id (by unfold InR; have := word_len k (by omega); simp only [List.length_append, List.length_singleton]; omega)]; omega)]) ?_
      refine RV_run (hs := [0]) (c' := 3) (k' := 15) TOK [] [0, 1, 4, 6, 7, 26, 33] ⟨[(0, .string (B l)), (1, .int .i64 (p : Int)), (4, .pointer (some ⟨b1, 0, none⟩)), (6, .int .i64 (k : Int)), (7, .string (B ((wordL k) ++ ([32] : List UInt8)))), (26, .bool true), (33, .string ((B l).extract p (p + (wordL k ++ ([32] : List UInt8)).length)))], [⟨b1, 36, [.int .i64 0, .int .i64 0, .int .i64 0]⟩]⟩ [] [.le ((p + (wordL k ++ ([32] : List UInt8)).length : Nat) : Int) l.length, .le (p : Int) (p + (wordL k ++ ([32] : List UInt8)).length)] (by kernel_rfl) (by kernel_rfl) ROS_nil (by simp only [Conds, Cond.holds, and_true]; first | omega | (have := word_len k (by omega); simp only [List.length_append, List.length_singleton, List.length_cons, List.length_nil] at *; omega)) ?_
      refine RV_st ⟨[(0, .string (B l)), (1, .int .i64 (p : Int)), (4, .pointer (some ⟨b1, 0, none⟩)), (6, .int .i64 (k : Int)), (7, .string (B ((wordL k) ++ ([32] : List UInt8)))), (26, .bool true), (33, .string (B ((l.take (p + (wordL k ++ ([32] : List UInt8)).length)).drop p)))], [⟨b1, 36, [.int .i64 0, .int .i64 0, .int .i64 0]⟩]⟩ (by rw [B_ext l p (p + (wordL k ++ ([32] : List UInt8)).length)]) ?_
      refine RV_go (hs := [0, 0, 0]) (c' := 0) (k' := 18) TOK [0, 1, 4, 6, 7, 36] ⟨[(0, .string (B l)), (1, .int .i64 (p : Int)), (4, .pointer (some ⟨b1, 0, none⟩)), (6, .int .i64 (k : Int)), (7, .string (B ((wordL k) ++ ([32] : List UInt8)))), (36, .bool ((B ((l.take (p + (wordL k ++ ([32] : List UInt8)).length)).drop p)).toList == (B ((wordL k) ++ ([32] : List UInt8))).toList))], [⟨b1, 36, [.int .i64 0, .int .i64 0, .int .i64 0]⟩]⟩ [] (by kernel_rfl) (by kernel_rfl) ?_
      refine RV_end ?_
      refine KE_then ?_
      refine VC_cond ((B ((l.take (p + (wordL k ++ ([32] : List UInt8)).length)).drop p)).toList == (B ((wordL k) ++ ([32] : List UInt8))).toList) (by kernel_rfl) (fun h11 => ?_) (fun h11 => ?_)
      · skip
        replace h11 := B_eq h11
        refine VC_seq ?_
        refine VC_region 11 rfl ?_
        refine RV_go (hs := [0, 0, 0, 0, 0]) (c' := 6) (k' := 5) TOK [0, 1, 4, 6, 38, 42] ⟨[(0, .string (B l)), (1, .int .i64 (p : Int)), (4, .pointer (some ⟨b1, 0, none⟩)), (6, .int .i64 (k : Int)), (38, .string (B l)), (42, .int .i64 (IntKind.i64.wrap ((p : Int) + (((wordL k) ++ ([32] : List UInt8)).length : Int))))], [⟨b1, 36, [.int .i64 0, .int .i64 0, .int .i64 0]⟩]⟩ [] (by kernel_rfl) (by kernel_rfl) ?_
        refine RV_st ⟨[(0, .string (B l)), (1, .int .i64 (p : Int)), (4, .pointer (some ⟨b1, 0, none⟩)), (6, .int .i64 (k : Int)), (38, .string (B l)), (42, .int .i64 ((p + (wordL k ++ ([32] : List UInt8)).length : Nat) : Int))], [⟨b1, 36, [.int .i64 0, .int .i64 0, .int .i64 0]⟩]⟩ (by rw [show IntKind.i64.wrap ((p : Int) + ((wordL k ++ ([32] : List UInt8)).length : Int)) = ((p + (wordL k ++ ([32] : List UInt8)).length : Nat) : Int) from (by rw [wrap_id (by unfold InR; have := word_len k (by omega); simp only [List.length_append, List.length_singleton]; omega)]; omega)]) ?_
        refine RV_call (c := 5) (f := 36) (vs := [.string (B l), .int .i64 ((p + (wordL k ++ ([32] : List UInt8)).length : Nat) : Int), .int .u8 32]) (dst := (some 43)) (by kernel_rfl) E36 (fun wa hxe hp => f36b l (p + (wordL k ++ ([32] : List UInt8)).length) 32 _ _ _ wa hp rfl rfl (by have := word_len k (by omega); simp only [List.length_append, List.length_singleton] at *; omega) hl (by decide)) ?_
        rintro S15 w16 v17 _ hx18 ⟨k12, r13, rfl, hn14⟩
        refine RV_go (hs := [0, 0, 0, 0, 0]) (c' := 0) (k' := 11) TOK [0, 1, 4, 6, 8, 9] ⟨[(0, .string (B l)), (1, .int .i64 (p : Int)), (4, .pointer (some ⟨b1, 0, none⟩)), (6, .int .i64 (k : Int)), (8, .int .i64 k12), (9, .int .i64 r13)], [⟨b1, 36, [.int .i64 0, .int .i64 0, .int .i64 0]⟩]⟩ [] (by kernel_rfl) (by kernel_rfl) ?_
        refine RV_end ?_
        refine KE_then ?_
        refine VC_seq ?_
        refine VC_go (hs := [0, 0]) TOK [0, 1, 4, 6, 8, 9, 47] ⟨[(0, .string (B l)), (1, .int .i64 (p : Int)), (4, .pointer (some ⟨b1, 0, none⟩)), (6, .int .i64 (k : Int)), (8, .int .i64 k12), (9, .int .i64 r13), (47, .bool (decide (r13 < 0)))], [⟨b1, 36, [.int .i64 0, .int .i64 0, .int .i64 0]⟩]⟩ [] (by kernel_rfl) (by kernel_rfl) ?_
        refine VC_cond (decide (r13 < 0)) (by kernel_rfl) (fun h19 => ?_) (fun h19 => ?_)
        · skip
          replace h19 := of_decide_eq_true h19
          refine VC_go (hs := [0, 0, 0]) TOK [0, 1, 4, 5, 6, 8, 9] ⟨[(0, .string (B l)), (1, .int .i64 (p : Int)), (4, .pointer (some ⟨b1, 0, none⟩)), (5, .int .i64 (-1)), (6, .int .i64 (k : Int)), (8, .int .i64 k12), (9, .int .i64 r13)], [⟨b1, 36, [.int .i64 0, .int .i64 0, .int .i64 0]⟩]⟩ [b1] (by kernel_rfl) (by kernel_rfl) ?_
          refine VC_ret (ls := []) TOK [] 1 false [0] [.agg #[.int .i64 0, .int .i64 0, .int .i64 0], .int .i64 (-1)] [b1] ([]) rfl (by kernel_rfl) (by kernel_rfl) (fun w9 hx9 => ?_)
          show ∃ c r, (.tuple #[.agg #[.int .i64 0, .int .i64 0, .int .i64 0], .int .i64 (-1)] : Value) = .tuple #[.agg #[.int .i64 c.no, .int .i64 c.a, .int .i64 c.b], .int .i64 r] ∧ OneR l p c r
          exact ⟨⟨0, 0, 0⟩, -1, rfl, one_no (by assumption) (by omega) (by assumption) hn14⟩
        · skip
          replace h19 := of_decide_eq_false h19
          refine VC_skip ?_
          refine KE_then ?_
          refine VC_seq ?_
          refine VC_region 8 rfl ?_
          refine RV_go (hs := [0, 0]) (c' := 6) (k' := 2) TOK [0, 1, 4, 6, 8, 50, 51] ⟨[(0, .string (B l)), (1, .int .i64 (p : Int)), (4, .pointer (some ⟨b1, 0, none⟩)), (6, .int .i64 (k : Int)), (8, .int .i64 k12), (50, .string (B l)), (51, .int .i64 r13)], [⟨b1, 36, [.int .i64 0, .int .i64 0, .int .i64 0]⟩]⟩ [] (by kernel_rfl) (by kernel_rfl) ?_
          refine RV_call (c := 5) (f := 36) (vs := [.string (B l), .int .i64 r13, .int .u8 10]) (dst := (some 52)) (by kernel_rfl) E36 (fun wa hxe hp => f36b l r13.toNat 10 _ _ _ wa hp (by omega) rfl (by have := hn14.le; omega) hl (by decide)) ?_
          rintro S23 w24 v25 _ hx26 ⟨k20, r21, rfl, hn22⟩
          refine RV_go (hs := [0, 0, 0, 0, 0]) (c' := 0) (k' := 8) TOK [0, 1, 4, 6, 8, 10, 11] ⟨[(0, .string (B l)), (1, .int .i64 (p : Int)), (4, .pointer (some ⟨b1, 0, none⟩)), (6, .int .i64 (k : Int)), (8, .int .i64 k12), (10, .int .i64 k20), (11, .int .i64 r21)], [⟨b1, 36, [.int .i64 0, .int .i64 0, .int .i64 0]⟩]⟩ [] (by kernel_rfl) (by kernel_rfl) ?_
          refine RV_end ?_
          refine KE_then ?_
          refine VC_go (hs := [0, 0, 0, 0, 0, 0, 0]) TOK [0, 1, 4, 5, 6] ⟨[(0, .string (B l)), (1, .int .i64 (p : Int)), (4, .pointer (some ⟨b1, 0, none⟩)), (5, .int .i64 r21), (6, .int .i64 (k : Int))], [⟨b1, 36, [.int .i64 (k : Int), .int .i64 k12, .int .i64 k20]⟩]⟩ [b1] (by kernel_rfl) (by kernel_rfl) ?_
          refine VC_ret (ls := []) TOK [] 1 false [0] [.agg #[.int .i64 (k : Int), .int .i64 k12, .int .i64 k20], .int .i64 r21] [b1] ([]) rfl (by kernel_rfl) (by kernel_rfl) (fun w9 hx9 => ?_)
          show ∃ c r, (.tuple #[.agg #[.int .i64 (k : Int), .int .i64 k12, .int .i64 k20], .int .i64 r21] : Value) = .tuple #[.agg #[.int .i64 c.no, .int .i64 c.a, .int .i64 c.b], .int .i64 r] ∧ OneR l p c r
          exact ⟨⟨k, k12, k20⟩, r21, rfl, one_yes (by omega) (by assumption) hn14 (by omega) hn22⟩
      · skip
        replace h11 := B_ne h11
        refine VC_skip ?_
        refine KE_block ?_
        refine KE_then ?_
        refine VC_region 3 rfl ?_
        refine RV_go (hs := [0, 0]) (c' := 1) (k' := 2) TOK [0, 1, 4, 6, 15] ⟨[(0, .string (B l)), (1, .int .i64 (p : Int)), (4, .pointer (some ⟨b1, 0, none⟩)), (6, .int .i64 (k : Int)), (15, .int .i64 (IntKind.i64.wrap ((k : Int) + 1)))], [⟨b1, 36, [.int .i64 0, .int .i64 0, .int .i64 0]⟩]⟩ [] (by kernel_rfl) (by kernel_rfl) ?_
        refine RV_st ⟨[(0, .string (B l)), (1, .int .i64 (p : Int)), (4, .pointer (some ⟨b1, 0, none⟩)), (6, .int .i64 (k : Int)), (15, .int .i64 ((k : Int) + 1))], [⟨b1, 36, [.int .i64 0, .int .i64 0, .int .i64 0]⟩]⟩ (by rw [wrap_id (x := (k : Int) + 1) (by unfold InR; first | omega | (have := word_len k (by omega); simp only [List.length_append, List.length_singleton]; omega))]) ?_
        refine RV_go (hs := [0]) (c' := 0) (k' := 3) TOK [0, 1, 4, 6] ⟨[(0, .string (B l)), (1, .int .i64 (p : Int)), (4, .pointer (some ⟨b1, 0, none⟩)), (6, .int .i64 ((k : Int) + 1))], [⟨b1, 36, [.int .i64 0, .int .i64 0, .int .i64 0]⟩]⟩ [] (by kernel_rfl) (by kernel_rfl) ?_
        refine RV_end ?_
        refine KE_rnd (10 - (k + 1)) [0, 1, 4, 6] [0] 1 ⟨[(0, .string (B l)), (1, .int .i64 (p : Int)), (4, .pointer (some ⟨b1, 0, none⟩)), (6, .int .i64 (((k + 1) : Nat) : Int))], [⟨b1, 36, [.int .i64 0, .int .i64 0, .int .i64 0]⟩]⟩ (by kernel_rfl) (by kernel_rfl) (by omega) ⟨(k + 1), (by omega), (by exact no_next hno (by first | exact .inr (by assumption) | exact .inl (by omega))), rfl, (hx4.trans hx9), rfl⟩
    · skip
      replace h10 := of_decide_eq_false h10
      refine RV_go (hs := [0, 0, 0, 0, 0, 0, 0, 0, 0, 0]) (c' := 0) (k' := 18) TOK [0, 1, 4, 6, 7, 36] ⟨[(0, .string (B l)), (1, .int .i64 (p : Int)), (4, .pointer (some ⟨b1, 0, none⟩)), (6, .int .i64 (k : Int)), (7, .string (B ((wordL k) ++ ([32] : List UInt8)))), (36, .bool false)], [⟨b1, 36, [.int .i64 0, .int .i64 0, .int .i64 0]⟩]⟩ [] (by kernel_rfl) (by kernel_rfl) ?_
      refine RV_end ?_
      refine KE_then ?_
      refine VC_false (by kernel_rfl) ?_
      refine VC_skip ?_
      refine KE_block ?_
      refine KE_then ?_
      refine VC_region 3 rfl ?_
      refine RV_go (hs := [0, 0]) (c' := 1) (k' := 2) TOK [0, 1, 4, 6, 15] ⟨[(0, .string (B l)), (1, .int .i64 (p : Int)), (4, .pointer (some ⟨b1, 0, none⟩)), (6, .int .i64 (k : Int)), (15, .int .i64 (IntKind.i64.wrap ((k : Int) + 1)))], [⟨b1, 36, [.int .i64 0, .int .i64 0, .int .i64 0]⟩]⟩ [] (by kernel_rfl) (by kernel_rfl) ?_
      refine RV_st ⟨[(0, .string (B l)), (1, .int .i64 (p : Int)), (4, .pointer (some ⟨b1, 0, none⟩)), (6, .int .i64 (k : Int)), (15, .int .i64 ((k : Int) + 1))], [⟨b1, 36, [.int .i64 0, .int .i64 0, .int .i64 0]⟩]⟩ (by rw [wrap_id (x := (k : Int) + 1) (by unfold InR; first | omega | (have := word_len k (by omega); simp only [List.length_append, List.length_singleton]; omega))]) ?_
      refine RV_go (hs := [0]) (c' := 0) (k' := 3) TOK [0, 1, 4, 6] ⟨[(0, .string (B l)), (1, .int .i64 (p : Int)), (4, .pointer (some ⟨b1, 0, none⟩)), (6, .int .i64 ((k : Int) + 1))], [⟨b1, 36, [.int .i64 0, .int .i64 0, .int .i64 0]⟩]⟩ [] (by kernel_rfl) (by kernel_rfl) ?_
      refine RV_end ?_
      refine KE_rnd (10 - (k + 1)) [0, 1, 4, 6] [0] 1 ⟨[(0, .string (B l)), (1, .int .i64 (p : Int)), (4, .pointer (some ⟨b1, 0, none⟩)), (6, .int .i64 (((k + 1) : Nat) : Int))], [⟨b1, 36, [.int .i64 0, .int .i64 0, .int .i64 0]⟩]⟩ (by kernel_rfl) (by kernel_rfl) (by omega) ⟨(k + 1), (by omega), (by exact no_next hno (by first | exact .inr (by assumption) | exact .inl (by omega))), rfl, (hx4.trans hx9), rfl⟩
  · skip
    replace h5 := of_decide_eq_false h5
    refine VC_exit ?_
    refine KE_exit_then ?_
    refine KE_exit_then ?_
    refine KE_exit_here ?_
    refine KE_then ?_
    refine VC_go (hs := [0, 0, 0]) TOK [4, 5] ⟨[(4, .pointer (some ⟨b1, 0, none⟩)), (5, .int .i64 (-1))], [⟨b1, 36, [.int .i64 0, .int .i64 0, .int .i64 0]⟩]⟩ [b1] (by kernel_rfl) (by kernel_rfl) ?_
    refine VC_ret (ls := []) TOK [] 1 false [0] [.agg #[.int .i64 0, .int .i64 0, .int .i64 0], .int .i64 (-1)] [b1] ([]) rfl (by kernel_rfl) (by kernel_rfl) (fun w9 hx9 => ?_)
    show ∃ c r, (.tuple #[.agg #[.int .i64 0, .int .i64 0, .int .i64 0], .int .i64 (-1)] : Value) = .tuple #[.agg #[.int .i64 c.no, .int .i64 c.a, .int .i64 c.b], .int .i64 r] ∧ OneR l p c r
    exact ⟨⟨0, 0, 0⟩, -1, rfl, one_none (fun j hj => hno j (by omega))⟩

end Go.YtmfkmoecbnghhaaDoor
