/- Contracts of functions, over the symbolic executor: each comes to what its theorem says. Written by gen.py, a program of this work. -/
import Derived.Test.YtmfkmoecbnghhaaDoorA7
namespace Go.YtmfkmoecbnghhaaDoor
open Go Eng Go.Proofs Law
set_option linter.unusedVariables false
set_option linter.unusedSimpArgs false

def kindC (k j : Nat) : Value := (kindsV.getD k []).getD j .nilFunc
theorem kinds_at (i : Nat) (h : i < 10) : (kindsC.drop (0 + i * 7)).take 7 = [.string (B (wordL i)), kindC i 1, kindC i 2, kindC i 3, kindC i 4, kindC i 5, kindC i 6] := by
  match i, h with
  | 0, _ => rfl
  | 1, _ => rfl
  | 2, _ => rfl
  | 3, _ => rfl
  | 4, _ => rfl
  | 5, _ => rfl
  | 6, _ => rfl
  | 7, _ => rfl
  | 8, _ => rfl
  | 9, _ => rfl
theorem no_more {p : List UInt8} {i : Nat} (h : ∀ j, j < i → wordL j ≠ p) (h2 : wordL i ≠ p) : ∀ j, j < i + 1 → wordL j ≠ p := fun j hj e => by
  rcases Nat.lt_or_ge j i with h1 | h1
  · exact h j h1 e
  · have : j = i := by omega
    subst this
    exact h2 e
theorem three_of {α : Type} {l : List α} (h : l.length = 3) : ∃ p q r, l = [p, q, r] := by
  match l, h with
  | [p, q, r], _ => exact ⟨p, q, r, rfl⟩

theorem f34 (p : List UInt8) (k1 k2 k3 k4 k5 k6 : Value) (b6 : Nat) (x : Sl) (p0 : List UInt8) (ps : List (List UInt8)) (S : Nat → Prop) (w : World) (hP : Pre S w [⟨b6, 68, [.slice x.a x.n x.c]⟩]) (hx : RSl stE S w x (p0 :: ps)) :
    Calls Tryd.prog 34 #[.agg #[.string (B p), k1, k2, k3, k4, k5, k6], .pointer (some ⟨b6, 0, none⟩)] w (Ret S w [⟨b6, 68, [.slice x.a x.n x.c]⟩] fun v_ ls_ S_ w_ => v_ = .bool ((B p).toList == (B p0).toList) ∧ ls_ = [⟨b6, 68, [.slice x.a x.n x.c]⟩]) := by
  have hxn := hx.n
  simp only [List.length_cons] at hxn
  refine Calls_of_VC (ls := [⟨b6, 68, [.slice x.a x.n x.c]⟩]) ⟨[(0, .agg #[.string (B p), k1, k2, k3, k4, k5, k6]), (1, .pointer (some ⟨b6, 0, none⟩))], [⟨b6, 68, [.slice x.a x.n x.c]⟩]⟩ Tryd.func34 rfl (by kernel_rfl) (by kernel_rfl) hP ?_
  refine VC_seq ?_
  refine VC_region 2 rfl ?_
  refine RV_new (c := 1) TOK [1, 2] (fun b1 => ⟨[(1, .pointer (some ⟨b6, 0, none⟩)), (2, .pointer (some ⟨b1, 0, none⟩))], [⟨b1, 53, [.string (B p), k1, k2, k3, k4, k5, k6]⟩, ⟨b6, 68, [.slice x.a x.n x.c]⟩]⟩) (fun _ => by kernel_rfl) (fun b1 => ?_)
  refine RV_go (hs := [0]) (c' := 0) (k' := 2) TOK [1, 2, 3] ⟨[(1, .pointer (some ⟨b6, 0, none⟩)), (2, .pointer (some ⟨b1, 0, none⟩)), (3, .bool false)], [⟨b1, 53, [.string (B p), k1, k2, k3, k4, k5, k6]⟩, ⟨b6, 68, [.slice x.a x.n x.c]⟩]⟩ [] (by kernel_rfl) (by kernel_rfl) ?_
  refine RV_end ?_
  refine KE_then ?_
  refine VC_seq ?_
  obtain ⟨b2, o3, ha4⟩ := hx.addr (Nat.lt_of_le_of_lt (Nat.zero_le 0) (by simp))
  refine VC_st ⟨[(1, .pointer (some ⟨b6, 0, none⟩)), (2, .pointer (some ⟨b1, 0, none⟩)), (3, .bool false)], [⟨b1, 53, [.string (B p), k1, k2, k3, k4, k5, k6]⟩, ⟨b6, 68, [.slice (some ⟨b2, o3, none⟩) x.n x.c]⟩]⟩ (by simp only [ha4]) ?_
  obtain ⟨vs_, hro5, rfl⟩ := hx.here ha4 0 (by simp)
  refine VC_draw MIX [⟨b1, 53, [.string (B p), k1, k2, k3, k4, k5, k6]⟩, ⟨b6, 68, [.slice (some ⟨b2, o3, none⟩) x.n x.c]⟩] 7 rfl ?_
  refine RVd_take (fuel' := 0) TOK [⟨b2, o3 + 0 * 1, [.string (B ((p0 :: ps)[0]'(by simp)))]⟩] [(0, 0), (1, 0), (2, 1), (3, 0), (4, 1000), (5, 0), (6, 0)] [3] [0, 1] #[true, true, true, true, true, true, true] [(3, .bool ((B p).toList == (B ((p0 :: ps)[0]'(by simp))).toList))] [b1, b6, b2, o3 + 0 * 1] [.lt 0 x.n] (by kernel_rfl) (by kernel_rfl) (by kernel_rfl) (by kernel_rfl) (ROL_std hro5 ROL_nil) (by simp only [Conds, Cond.holds, and_true]; omega) ?_
  refine RVd_end (by kernel_rfl) ?_
  refine KE_then ?_
  refine VC_ret (ls := [⟨b6, 68, [.slice x.a x.n x.c]⟩]) TOK [1] 2 false [] [.bool ((B p).toList == (B ((p0 :: ps)[0]'(by simp))).toList)] [] ([⟨b6, 68, [.slice (some ⟨b2, o3, none⟩) x.n x.c]⟩]) rfl (by kernel_rfl) (by kernel_rfl) (fun w9 hx9 => ?_)
  show (.bool ((B p).toList == (B ((p0 :: ps)[0]'(by simp))).toList) : Value) = .bool ((B p).toList == (B p0).toList) ∧ ([⟨b6, 68, [.slice (some ⟨b2, o3, none⟩) x.n x.c]⟩] : List LB) = [⟨b6, 68, [.slice x.a x.n x.c]⟩]
  exact ⟨rfl, by rw [ha4]⟩

theorem f33 (b7 b6 : Nat) (x : Sl) (p0 : List UInt8) (ps : List (List UInt8)) (S : Nat → Prop) (w : World) (hP : Pre S w [⟨b7, 54, kindsC⟩, ⟨b6, 68, [.slice x.a x.n x.c]⟩]) (hx : RSl stE S w x (p0 :: ps)) :
    Calls Tryd.prog 33 #[.slice (some ⟨b7, 0, none⟩) 10 10, .func (.func 34) #[] #[.pointer (some ⟨b6, 0, none⟩)]] w (Ret S w [⟨b7, 54, kindsC⟩, ⟨b6, 68, [.slice x.a x.n x.c]⟩] fun v_ ls_ S_ w_ => ∃ r, v_ = .int .i64 r ∧ ((0 ≤ r ∧ r ≤ 9 ∧ wordL r.toNat = p0) ∨ (r = -1 ∧ ∀ j, j < 10 → wordL j ≠ p0)) ∧ ls_ = [⟨b7, 54, kindsC⟩, ⟨b6, 68, [.slice x.a x.n x.c]⟩]) := by
  refine Calls_of_VC (ls := [⟨b7, 54, kindsC⟩, ⟨b6, 68, [.slice x.a x.n x.c]⟩]) ⟨[(0, .slice (some ⟨b7, 0, none⟩) 10 10), (1, .func (.func 34) #[] #[.pointer (some ⟨b6, 0, none⟩)])], [⟨b7, 54, kindsC⟩, ⟨b6, 68, [.slice x.a x.n x.c]⟩]⟩ Tryd.func33 rfl (by kernel_rfl) (by kernel_rfl) hP ?_
  refine VC_go (hs := [0]) TOK [0, 1, 4] ⟨[(0, .slice (some ⟨b7, 0, none⟩) 10 10), (1, .func (.func 34) #[] #[.pointer (some ⟨b6, 0, none⟩)]), (4, .int .i64 0)], [⟨b7, 54, kindsC⟩, ⟨b6, 68, [.slice x.a x.n x.c]⟩]⟩ [] (by kernel_rfl) (by kernel_rfl) ?_
  refine VC_seq ?_
  refine VC_go (hs := [0, 0, 0]) TOK [0, 1, 4, 7, 8] ⟨[(0, .slice (some ⟨b7, 0, none⟩) 10 10), (1, .func (.func 34) #[] #[.pointer (some ⟨b6, 0, none⟩)]), (4, .int .i64 0), (7, .int .i64 10), (8, .int .i64 0)], [⟨b7, 54, kindsC⟩, ⟨b6, 68, [.slice x.a x.n x.c]⟩]⟩ [] (by kernel_rfl) (by kernel_rfl) ?_
  refine VC_block ?_
  refine VC_keep [0, 1, 7, 8] [0, 1] 2 ⟨[(0, .slice (some ⟨b7, 0, none⟩) 10 10), (1, .func (.func 34) #[] #[.pointer (some ⟨b6, 0, none⟩)]), (7, .int .i64 10), (8, .int .i64 (0 : Int))], [⟨b7, 54, kindsC⟩, ⟨b6, 68, [.slice x.a x.n x.c]⟩]⟩ (by kernel_rfl) (by kernel_rfl) ?_
  refine VC_loop (J := fun m_ S' w' st_ => ∃ (i : Nat), (i ≤ 10) ∧ (∀ j, j < i → wordL j ≠ p0) ∧ m_ = 10 - i ∧ Ext S w S' w' ∧ st_ = ⟨[(0, .slice (some ⟨b7, 0, none⟩) 10 10), (1, .func (.func 34) #[] #[.pointer (some ⟨b6, 0, none⟩)]), (7, .int .i64 10), (8, .int .i64 (i : Int))], [⟨b7, 54, kindsC⟩, ⟨b6, 68, [.slice x.a x.n x.c]⟩]⟩) (10 - 0) ⟨0, (by omega), (by exact fun j hj => absurd hj (Nat.not_lt_zero j)), rfl, Ext.refl _ _, rfl⟩ ?_
  rintro _ S1 w2 _ ⟨i, hi, hno, rfl, hx3, rfl⟩
  have hx := hx.ext hx3
  -- a round
  refine VC_go (hs := [0]) TOK [0, 1, 7, 8, 9] ⟨[(0, .slice (some ⟨b7, 0, none⟩) 10 10), (1, .func (.func 34) #[] #[.pointer (some ⟨b6, 0, none⟩)]), (7, .int .i64 10), (8, .int .i64 (i : Int)), (9, .bool (decide ((i : Int) < 10)))], [⟨b7, 54, kindsC⟩, ⟨b6, 68, [.slice x.a x.n x.c]⟩]⟩ [] (by kernel_rfl) (by kernel_rfl) ?_
  refine VC_seq ?_
  refine VC_cond (decide ((i : Int) < 10)) (by kernel_rfl) (fun h4 => ?_) (fun h4 => ?_)
  · skip
    replace h4 := of_decide_eq_true h4
    refine VC_skip ?_
    refine KE_then ?_
    refine VC_seq ?_
    refine VC_block ?_
    refine VC_go (hs := [0, 0]) TOK [0, 1, 5, 7, 8] ⟨[(0, .slice (some ⟨b7, 0, none⟩) 10 10), (1, .func (.func 34) #[] #[.pointer (some ⟨b6, 0, none⟩)]), (5, .int .i64 (i : Int)), (7, .int .i64 10), (8, .int .i64 (i : Int))], [⟨b7, 54, kindsC⟩, ⟨b6, 68, [.slice x.a x.n x.c]⟩]⟩ [] (by kernel_rfl) (by kernel_rfl) ?_
    refine VC_seq ?_
    refine VC_region 6 rfl ?_
    refine RV_run (hs := [0, 0, 0, 0]) (c' := 2) (k' := 4) TOK [] [0, 1, 5, 7, 8, 11, 14] ⟨[(0, .slice (some ⟨b7, 0, none⟩) 10 10), (1, .func (.func 34) #[] #[.pointer (some ⟨b6, 0, none⟩)]), (5, .int .i64 (i : Int)), (7, .int .i64 10), (8, .int .i64 (i : Int)), (11, .func (.func 34) #[] #[.pointer (some ⟨b6, 0, none⟩)]), (14, .pointer (some ⟨b7, 0 + i * 7, none⟩))], [⟨b7, 54, kindsC⟩, ⟨b6, 68, [.slice x.a x.n x.c]⟩]⟩ [] [.lt (i : Int) 10] (by kernel_rfl) (by kernel_rfl) ROS_nil (by simp only [Conds, Cond.holds, and_true]; omega) ?_
    refine RV_step (c := 1) TOK 1000 [⟨b7, 0 + i * 7, [.string (B (wordL i)), kindC i 1, kindC i 2, kindC i 3, kindC i 4, kindC i 5, kindC i 6]⟩] [0, 1, 5, 7, 8, 11, 15] ⟨[(0, .slice (some ⟨b7, 0, none⟩) 10 10), (1, .func (.func 34) #[] #[.pointer (some ⟨b6, 0, none⟩)]), (5, .int .i64 (i : Int)), (7, .int .i64 10), (8, .int .i64 (i : Int)), (11, .func (.func 34) #[] #[.pointer (some ⟨b6, 0, none⟩)]), (15, .agg #[.string (B (wordL i)), kindC i 1, kindC i 2, kindC i 3, kindC i 4, kindC i 5, kindC i 6])], [⟨b7, 54, kindsC⟩, ⟨b6, 68, [.slice x.a x.n x.c]⟩]⟩ [b7, 0 + i * 7] [] (by kernel_rfl) (ROL_own ⟨b7, 54, kindsC⟩ (by simp) (kinds_at i (by omega)) ROL_nil) trivial ?_
    refine RV_front 1 ⟨b6, 68, [.slice x.a x.n x.c]⟩ ([⟨b6, 68, [.slice x.a x.n x.c]⟩, ⟨b7, 54, kindsC⟩]) rfl rfl ?_
    refine RV_callM (c := 0) [⟨b6, 68, [.slice x.a x.n x.c]⟩] ([⟨b7, 54, kindsC⟩]) (f := 34) (vs := [.agg #[.string (B (wordL i)), kindC i 1, kindC i 2, kindC i 3, kindC i 4, kindC i 5, kindC i 6], .pointer (some ⟨b6, 0, none⟩)]) (dst := (some 16)) (by kernel_rfl) E34 rfl (fun wa hxe hp => f34 (wordL i) (kindC i 1) (kindC i 2) (kindC i 3) (kindC i 4) (kindC i 5) (kindC i 6) b6 x p0 ps _ wa hp (hx.ext hxe)) ?_
    rintro S5 w6 v7 _ hx8 ⟨rfl, rfl⟩
    have hx := hx.ext hx8
    refine RV_end ?_
    refine KE_then ?_
    refine VC_cond ((B (wordL i)).toList == (B p0).toList) (by kernel_rfl) (fun h9 => ?_) (fun h9 => ?_)
    · skip
      replace h9 := B_eq h9
      refine VC_go (hs := [0, 0]) TOK [0, 1, 4, 7, 8] ⟨[(0, .slice (some ⟨b7, 0, none⟩) 10 10), (1, .func (.func 34) #[] #[.pointer (some ⟨b6, 0, none⟩)]), (4, .int .i64 (i : Int)), (7, .int .i64 10), (8, .int .i64 (i : Int))], [⟨b6, 68, [.slice x.a x.n x.c]⟩, ⟨b7, 54, kindsC⟩]⟩ [] (by kernel_rfl) (by kernel_rfl) ?_
      refine VC_front 1 ⟨b7, 54, kindsC⟩ ([⟨b7, 54, kindsC⟩, ⟨b6, 68, [.slice x.a x.n x.c]⟩]) rfl rfl ?_
      refine VC_ret (ls := [⟨b7, 54, kindsC⟩, ⟨b6, 68, [.slice x.a x.n x.c]⟩]) TOK [0, 1] 2 false [] [.int .i64 (i : Int)] [] ([⟨b7, 54, kindsC⟩, ⟨b6, 68, [.slice x.a x.n x.c]⟩]) rfl (by kernel_rfl) (by kernel_rfl) (fun w9 hx9 => ?_)
      show ∃ r, (.int .i64 (i : Int) : Value) = .int .i64 r ∧ ((0 ≤ r ∧ r ≤ 9 ∧ wordL r.toNat = p0) ∨ (r = -1 ∧ ∀ j, j < 10 → wordL j ≠ p0)) ∧ ([⟨b7, 54, kindsC⟩, ⟨b6, 68, [.slice x.a x.n x.c]⟩] : List LB) = [⟨b7, 54, kindsC⟩, ⟨b6, 68, [.slice x.a x.n x.c]⟩]
      first | exact ⟨_, rfl, .inl ⟨by omega, by omega, by simpa using (by assumption : wordL i = p0)⟩, rfl⟩ | exact ⟨_, rfl, .inr ⟨rfl, fun j hj => hno j (by omega)⟩, rfl⟩
    · skip
      replace h9 := B_ne h9
      refine VC_skip ?_
      refine KE_block ?_
      refine KE_then ?_
      refine VC_region 2 rfl ?_
      refine RV_go (hs := [0]) (c' := 1) (k' := 1) TOK [0, 1, 7, 8, 18] ⟨[(0, .slice (some ⟨b7, 0, none⟩) 10 10), (1, .func (.func 34) #[] #[.pointer (some ⟨b6, 0, none⟩)]), (7, .int .i64 10), (8, .int .i64 (i : Int)), (18, .int .i64 (IntKind.i64.wrap ((i : Int) + 1)))], [⟨b6, 68, [.slice x.a x.n x.c]⟩, ⟨b7, 54, kindsC⟩]⟩ [] (by kernel_rfl) (by kernel_rfl) ?_
      refine RV_st ⟨[(0, .slice (some ⟨b7, 0, none⟩) 10 10), (1, .func (.func 34) #[] #[.pointer (some ⟨b6, 0, none⟩)]), (7, .int .i64 10), (8, .int .i64 (i : Int)), (18, .int .i64 ((i : Int) + 1))], [⟨b6, 68, [.slice x.a x.n x.c]⟩, ⟨b7, 54, kindsC⟩]⟩ (by rw [wrap_id (x := (i : Int) + 1) (by unfold InR; omega)]) ?_
      refine RV_go (hs := [0]) (c' := 0) (k' := 2) TOK [0, 1, 7, 8] ⟨[(0, .slice (some ⟨b7, 0, none⟩) 10 10), (1, .func (.func 34) #[] #[.pointer (some ⟨b6, 0, none⟩)]), (7, .int .i64 10), (8, .int .i64 ((i : Int) + 1))], [⟨b6, 68, [.slice x.a x.n x.c]⟩, ⟨b7, 54, kindsC⟩]⟩ [] (by kernel_rfl) (by kernel_rfl) ?_
      refine RV_end ?_
      refine KE_front 1 ⟨b7, 54, kindsC⟩ ([⟨b7, 54, kindsC⟩, ⟨b6, 68, [.slice x.a x.n x.c]⟩]) rfl rfl ?_
      refine KE_rnd (10 - (i + 1)) [0, 1, 7, 8] [0, 1] 2 ⟨[(0, .slice (some ⟨b7, 0, none⟩) 10 10), (1, .func (.func 34) #[] #[.pointer (some ⟨b6, 0, none⟩)]), (7, .int .i64 10), (8, .int .i64 (((i + 1) : Nat) : Int))], [⟨b7, 54, kindsC⟩, ⟨b6, 68, [.slice x.a x.n x.c]⟩]⟩ (by kernel_rfl) (by kernel_rfl) (by omega) ⟨(i + 1), (by omega), (by exact no_more hno (by assumption)), rfl, (hx3.trans hx8), rfl⟩
  · skip
    replace h4 := of_decide_eq_false h4
    refine VC_exit ?_
    refine KE_exit_then ?_
    refine KE_exit_then ?_
    refine KE_exit_here ?_
    refine KE_then ?_
    refine VC_go (hs := [0]) TOK [4] ⟨[(4, .int .i64 (-1))], [⟨b7, 54, kindsC⟩, ⟨b6, 68, [.slice x.a x.n x.c]⟩]⟩ [] (by kernel_rfl) (by kernel_rfl) ?_
    refine VC_ret (ls := [⟨b7, 54, kindsC⟩, ⟨b6, 68, [.slice x.a x.n x.c]⟩]) TOK [0, 1] 2 false [] [.int .i64 (-1)] [] ([⟨b7, 54, kindsC⟩, ⟨b6, 68, [.slice x.a x.n x.c]⟩]) rfl (by kernel_rfl) (by kernel_rfl) (fun w9 hx9 => ?_)
    show ∃ r, (.int .i64 (-1) : Value) = .int .i64 r ∧ ((0 ≤ r ∧ r ≤ 9 ∧ wordL r.toNat = p0) ∨ (r = -1 ∧ ∀ j, j < 10 → wordL j ≠ p0)) ∧ ([⟨b7, 54, kindsC⟩, ⟨b6, 68, [.slice x.a x.n x.c]⟩] : List LB) = [⟨b7, 54, kindsC⟩, ⟨b6, 68, [.slice x.a x.n x.c]⟩]
    first | exact ⟨_, rfl, .inl ⟨by omega, by omega, by simpa using (by assumption : wordL i = p0)⟩, rfl⟩ | exact ⟨_, rfl, .inr ⟨rfl, fun j hj => hno j (by omega)⟩, rfl⟩

end Go.YtmfkmoecbnghhaaDoor
