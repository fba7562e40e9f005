/- Contracts of functions, over the symbolic executor: each comes to what its theorem says. Written by gen.py, a program of this work. -/
import Derived.Test.YtmfkmoecbnghhaaDoorA0
namespace Go.YtmfkmoecbnghhaaDoor
open Go Eng Go.Proofs Law
set_option linter.unusedVariables false
set_option linter.unusedSimpArgs false

theorem same_len {S S' : Nat → Prop} {w w' : World} {x y : Sl} {xs ys : List Sc} (hx : RSl scE S w x xs) (hy : RSl scE S' w' y ys) (h : (x.n : Int) ≠ (y.n : Int)) : xs ≠ ys := by
  rintro rfl
  exact h (by rw [hx.n, hy.n])
theorem same_at {xs ys : List Sc} {i : Nat} (hi : i < xs.length) (hj : i < ys.length) (h : (!((xs[i].no == ys[i].no) && ((xs[i].a == ys[i].a) && (xs[i].b == ys[i].b)))) = true) : xs ≠ ys := by
  rintro rfl
  simp at h
theorem same_step {xs ys : List Sc} {i : Nat} (hi : i < xs.length) (hj : i < ys.length) (h0 : xs.take i = ys.take i) (h : (!((xs[i].no == ys[i].no) && ((xs[i].a == ys[i].a) && (xs[i].b == ys[i].b)))) = false) : xs.take (i + 1) = ys.take (i + 1) := by
  simp only [Bool.not_eq_eq_eq_not, Bool.not_false, Bool.and_eq_true, beq_iff_eq] at h
  have e : xs[i] = ys[i] := by
    cases hxi : xs[i]; cases hyi : ys[i]
    rw [hxi, hyi] at h
    simp only at h
    rw [h.1, h.2.1, h.2.2]
  rw [List.take_add_one, List.take_add_one, h0, List.getElem?_eq_getElem hi, List.getElem?_eq_getElem hj, e]
theorem same_all {S S' : Nat → Prop} {w w' : World} {x y : Sl} {xs ys : List Sc} {i : Nat} (h0 : xs.take i = ys.take i) (hx : RSl scE S w x xs) (hy : RSl scE S' w' y ys) (h : (x.n : Int) = (y.n : Int) ∧ x.n ≤ i) : xs = ys := by
  have h1 := hx.n
  have h2 := hy.n
  rw [List.take_of_length_le (by omega), List.take_of_length_le (by omega)] at h0
  exact h0

theorem f11 (x y : Sl) (xs ys : List Sc) (S : Nat → Prop) (w : World) (hP : Pre S w []) (hx : RSl scE S w x xs) (hy : RSl scE S w y ys) (hb : xs.length ≤ 1000000) :
    Calls Tryd.prog 11 #[.slice x.a x.n x.c, .slice y.a y.n y.c] w (Ret S w [] fun v_ ls_ S_ w_ => v_ = .bool (decide (xs = ys))) := by
  have hxn := hx.n
  have hyn := hy.n
  refine Calls_of_VC (ls := []) ⟨[(0, .slice x.a x.n x.c), (1, .slice y.a y.n y.c)], []⟩ Tryd.func11 rfl (by kernel_rfl) (by kernel_rfl) hP ?_
  refine VC_go (hs := [0]) TOK [0, 1, 4] ⟨[(0, .slice x.a x.n x.c), (1, .slice y.a y.n y.c), (4, .bool false)], []⟩ [] (by kernel_rfl) (by kernel_rfl) ?_
  refine VC_seq ?_
  refine VC_go (hs := [0, 0, 0, 0, 0]) TOK [0, 1, 4, 10] ⟨[(0, .slice x.a x.n x.c), (1, .slice y.a y.n y.c), (4, .bool false), (10, .bool ((x.n : Int) != (y.n : Int)))], []⟩ [] (by kernel_rfl) (by kernel_rfl) ?_
  refine VC_cond ((x.n : Int) != (y.n : Int)) (by kernel_rfl) (fun h1 => ?_) (fun h1 => ?_)
  · skip
    replace h1 := bne_iff_ne.1 h1
    refine VC_go (hs := [0]) TOK [0, 1, 4] ⟨[(0, .slice x.a x.n x.c), (1, .slice y.a y.n y.c), (4, .bool false)], []⟩ [] (by kernel_rfl) (by kernel_rfl) ?_
    refine VC_ret (ls := []) TOK [] 0 false [] [.bool false] [] ([]) rfl (by kernel_rfl) (by kernel_rfl) (fun w9 hx9 => ?_)
    show (.bool false : Value) = .bool (decide (xs = ys))
    first
      | exact congrArg Value.bool (decide_eq_false (same_len hx hy (by assumption))).symm
      | exact congrArg Value.bool (decide_eq_false (same_at _ _ (by assumption))).symm
      | exact congrArg Value.bool (decide_eq_true (same_all (i := i) (by assumption) hx hy (by omega))).symm
  · skip
    replace h1 : (x.n : Int) = (y.n : Int) := by simpa using h1
    refine VC_skip ?_
    refine KE_then ?_
    refine VC_seq ?_
    refine VC_go (hs := [0]) TOK [0, 1, 4, 5] ⟨[(0, .slice x.a x.n x.c), (1, .slice y.a y.n y.c), (4, .bool false), (5, .int .i64 0)], []⟩ [] (by kernel_rfl) (by kernel_rfl) ?_
    refine VC_block ?_
    refine VC_keep [0, 1, 5] [] 0 ⟨[(0, .slice x.a x.n x.c), (1, .slice y.a y.n y.c), (5, .int .i64 (0 : Int))], []⟩ (by kernel_rfl) (by kernel_rfl) ?_
    refine VC_loop (J := fun m_ S' w' st_ => ∃ (i : Nat), (i ≤ x.n) ∧ (xs.take i = ys.take i) ∧ m_ = x.n - i ∧ Ext S w S' w' ∧ st_ = ⟨[(0, .slice x.a x.n x.c), (1, .slice y.a y.n y.c), (5, .int .i64 (i : Int))], []⟩) (x.n - 0) ⟨0, (by exact Nat.zero_le _), (by rfl), rfl, Ext.refl _ _, rfl⟩ ?_
    rintro _ S2 w3 _ ⟨i, hi, ht, rfl, hx4, rfl⟩
    have hx := hx.ext hx4
    have hy := hy.ext hx4
    -- a round
    refine VC_seq ?_
    refine VC_go (hs := [0, 0, 0, 0]) TOK [0, 1, 5, 14] ⟨[(0, .slice x.a x.n x.c), (1, .slice y.a y.n y.c), (5, .int .i64 (i : Int)), (14, .bool (decide ((i : Int) < (x.n : Int))))], []⟩ [] (by kernel_rfl) (by kernel_rfl) ?_
    refine VC_cond (decide ((i : Int) < (x.n : Int))) (by kernel_rfl) (fun h5 => ?_) (fun h5 => ?_)
    · skip
      replace h5 := of_decide_eq_true h5
      refine VC_skip ?_
      refine KE_then ?_
      refine VC_seq ?_
      refine VC_block ?_
      refine VC_seq ?_
      refine VC_draw MIX [] 9 rfl ?_
      refine RVd_take (fuel' := 5) TOK [] [(0, 0), (1, 0), (4, 0), (5, 0)] [0, 1, 5, 17, 18, 21, 22] [] #[true, true, false, false, true, true, false, false, false] [(0, .slice x.a x.n x.c), (1, .slice y.a y.n y.c), (5, .int .i64 (i : Int)), (17, .slice x.a x.n x.c), (18, .int .i64 (i : Int)), (21, .slice y.a y.n y.c), (22, .int .i64 (i : Int))] [] [] (by kernel_rfl) (by kernel_rfl) (by kernel_rfl) (by kernel_rfl) ROL_nil trivial ?_
      obtain ⟨b6, o7, ha8⟩ := hx.addr (Nat.lt_of_le_of_lt (Nat.zero_le i) (by have := hx.n; omega))
      refine RVd_st ⟨[(0, .slice (some ⟨b6, o7, none⟩) x.n x.c), (1, .slice y.a y.n y.c), (5, .int .i64 (i : Int)), (17, .slice (some ⟨b6, o7, none⟩) x.n x.c), (18, .int .i64 (i : Int)), (21, .slice y.a y.n y.c), (22, .int .i64 (i : Int))], []⟩ (by simp only [ha8]) ?_
      obtain ⟨vs_, hro9, ⟨rfl, hr1, hr2, hr3⟩⟩ := hx.here ha8 i (by have := hx.n; omega)
      refine RVd_take (fuel' := 3) TOK [⟨b6, o7 + i * 3, [.int .i64 ((xs[i]'(by have := hx.n; omega)).no), .int .i64 ((xs[i]'(by have := hx.n; omega)).a), .int .i64 ((xs[i]'(by have := hx.n; omega)).b)]⟩] [(2, 0), (3, 1000)] [0, 1, 5, 20, 21, 22] [] #[true, true, true, true, true, true, false, false, false] [(0, .slice (some ⟨b6, o7, none⟩) x.n x.c), (1, .slice y.a y.n y.c), (5, .int .i64 (i : Int)), (20, .agg #[.int .i64 ((xs[i]'(by have := hx.n; omega)).no), .int .i64 ((xs[i]'(by have := hx.n; omega)).a), .int .i64 ((xs[i]'(by have := hx.n; omega)).b)]), (21, .slice y.a y.n y.c), (22, .int .i64 (i : Int))] [b6, o7 + i * 3] [.lt (i : Int) x.n] (by kernel_rfl) (by kernel_rfl) (by kernel_rfl) (by kernel_rfl) (ROL_std hro9 ROL_nil) (by simp only [Conds, Cond.holds, and_true]; omega) ?_
      obtain ⟨b10, o11, ha12⟩ := hy.addr (Nat.lt_of_le_of_lt (Nat.zero_le i) (by have := hy.n; omega))
      refine RVd_st ⟨[(0, .slice (some ⟨b6, o7, none⟩) x.n x.c), (1, .slice (some ⟨b10, o11, none⟩) y.n y.c), (5, .int .i64 (i : Int)), (20, .agg #[.int .i64 ((xs[i]'(by have := hx.n; omega)).no), .int .i64 ((xs[i]'(by have := hx.n; omega)).a), .int .i64 ((xs[i]'(by have := hx.n; omega)).b)]), (21, .slice (some ⟨b10, o11, none⟩) y.n y.c), (22, .int .i64 (i : Int))], []⟩ (by simp only [ha12]) ?_
      obtain ⟨vs_, hro13, ⟨rfl, hr1, hr2, hr3⟩⟩ := hy.here ha12 i (by have := hy.n; omega)
      refine RVd_take (fuel' := 1) TOK [⟨b6, o7 + i * 3, [.int .i64 ((xs[i]'(by have := hx.n; omega)).no), .int .i64 ((xs[i]'(by have := hx.n; omega)).a), .int .i64 ((xs[i]'(by have := hx.n; omega)).b)]⟩, ⟨b10, o11 + i * 3, [.int .i64 ((ys[i]'(by have := hy.n; omega)).no), .int .i64 ((ys[i]'(by have := hy.n; omega)).a), .int .i64 ((ys[i]'(by have := hy.n; omega)).b)]⟩] [(6, 0), (7, 1100)] [0, 1, 5, 20, 24] [] #[true, true, true, true, true, true, true, true, false] [(0, .slice (some ⟨b6, o7, none⟩) x.n x.c), (1, .slice (some ⟨b10, o11, none⟩) y.n y.c), (5, .int .i64 (i : Int)), (20, .agg #[.int .i64 ((xs[i]'(by have := hx.n; omega)).no), .int .i64 ((xs[i]'(by have := hx.n; omega)).a), .int .i64 ((xs[i]'(by have := hx.n; omega)).b)]), (24, .agg #[.int .i64 ((ys[i]'(by have := hy.n; omega)).no), .int .i64 ((ys[i]'(by have := hy.n; omega)).a), .int .i64 ((ys[i]'(by have := hy.n; omega)).b)])] [b10, o11 + i * 3] [.lt (i : Int) y.n] (by kernel_rfl) (by kernel_rfl) (by kernel_rfl) (by kernel_rfl) (ROL_std hro9 (ROL_std hro13 ROL_nil)) (by simp only [Conds, Cond.holds, and_true]; omega) ?_
      refine RVd_eq (fuel := 0) TOK STOK 8 20 [0, 1, 5, 25] [] #[true, true, true, true, true, true, true, true, true] ⟨[(0, .slice (some ⟨b6, o7, none⟩) x.n x.c), (1, .slice (some ⟨b10, o11, none⟩) y.n y.c), (5, .int .i64 (i : Int)), (25, .bool (!((((xs[i]'(by have := hx.n; omega)).no) == ((ys[i]'(by have := hy.n; omega)).no)) && ((((xs[i]'(by have := hx.n; omega)).a) == ((ys[i]'(by have := hy.n; omega)).a)) && (((xs[i]'(by have := hx.n; omega)).b) == ((ys[i]'(by have := hy.n; omega)).b))))))], []⟩ (by kernel_rfl) (by kernel_rfl) rfl (by kernel_rfl) (by kernel_rfl) ?_
      refine RVd_end (by kernel_rfl) ?_
      refine KE_then ?_
      refine VC_cond (!((((xs[i]'(by have := hx.n; omega)).no) == ((ys[i]'(by have := hy.n; omega)).no)) && ((((xs[i]'(by have := hx.n; omega)).a) == ((ys[i]'(by have := hy.n; omega)).a)) && (((xs[i]'(by have := hx.n; omega)).b) == ((ys[i]'(by have := hy.n; omega)).b))))) (by kernel_rfl) (fun h14 => ?_) (fun h14 => ?_)
      · skip
        refine VC_go (hs := [0]) TOK [0, 1, 4, 5] ⟨[(0, .slice (some ⟨b6, o7, none⟩) x.n x.c), (1, .slice (some ⟨b10, o11, none⟩) y.n y.c), (4, .bool false), (5, .int .i64 (i : Int))], []⟩ [] (by kernel_rfl) (by kernel_rfl) ?_
        refine VC_ret (ls := []) TOK [] 0 false [] [.bool false] [] ([]) rfl (by kernel_rfl) (by kernel_rfl) (fun w9 hx9 => ?_)
        show (.bool false : Value) = .bool (decide (xs = ys))
        first
          | exact congrArg Value.bool (decide_eq_false (same_len hx hy (by assumption))).symm
          | exact congrArg Value.bool (decide_eq_false (same_at _ _ (by assumption))).symm
          | exact congrArg Value.bool (decide_eq_true (same_all (i := i) (by assumption) hx hy (by omega))).symm
      · skip
        refine VC_skip ?_
        refine KE_block ?_
        refine KE_then ?_
        refine VC_region 3 rfl ?_
        refine RV_go (hs := [0, 0]) (c' := 1) (k' := 2) TOK [0, 1, 5, 16] ⟨[(0, .slice (some ⟨b6, o7, none⟩) x.n x.c), (1, .slice (some ⟨b10, o11, none⟩) y.n y.c), (5, .int .i64 (i : Int)), (16, .int .i64 (IntKind.i64.wrap ((i : Int) + 1)))], []⟩ [] (by kernel_rfl) (by kernel_rfl) ?_
        refine RV_st ⟨[(0, .slice (some ⟨b6, o7, none⟩) x.n x.c), (1, .slice (some ⟨b10, o11, none⟩) y.n y.c), (5, .int .i64 (i : Int)), (16, .int .i64 ((i : Int) + 1))], []⟩ (by rw [wrap_id (x := (i : Int) + 1) (by unfold InR; omega)]) ?_
        refine RV_go (hs := [0]) (c' := 0) (k' := 3) TOK [0, 1, 5] ⟨[(0, .slice (some ⟨b6, o7, none⟩) x.n x.c), (1, .slice (some ⟨b10, o11, none⟩) y.n y.c), (5, .int .i64 ((i : Int) + 1))], []⟩ [] (by kernel_rfl) (by kernel_rfl) ?_
        refine RV_end ?_
        refine KE_st ⟨[(0, .slice x.a x.n x.c), (1, .slice y.a y.n y.c), (5, .int .i64 ((i : Int) + 1))], []⟩ (by simp only [ha8, ha12]) ?_
        refine KE_rnd (x.n - (i + 1)) [0, 1, 5] [] 0 ⟨[(0, .slice x.a x.n x.c), (1, .slice y.a y.n y.c), (5, .int .i64 (((i + 1) : Nat) : Int))], []⟩ (by kernel_rfl) (by kernel_rfl) (by omega) ⟨(i + 1), (by omega), (by exact same_step _ _ ht (by assumption)), rfl, hx4, rfl⟩
    · skip
      replace h5 := of_decide_eq_false h5
      refine VC_exit ?_
      refine KE_exit_then ?_
      refine KE_exit_then ?_
      refine KE_exit_here ?_
      refine KE_then ?_
      refine VC_go (hs := [0]) TOK [4] ⟨[(4, .bool true)], []⟩ [] (by kernel_rfl) (by kernel_rfl) ?_
      refine VC_ret (ls := []) TOK [] 0 false [] [.bool true] [] ([]) rfl (by kernel_rfl) (by kernel_rfl) (fun w9 hx9 => ?_)
      show (.bool true : Value) = .bool (decide (xs = ys))
      first
        | exact congrArg Value.bool (decide_eq_false (same_len hx hy (by assumption))).symm
        | exact congrArg Value.bool (decide_eq_false (same_at _ _ (by assumption))).symm
        | exact congrArg Value.bool (decide_eq_true (same_all (i := i) (by assumption) hx hy (by omega))).symm

theorem f21 (x y : Sl) (xs ys : List Sc) (S : Nat → Prop) (w : World) (hP : Pre S w []) (hx : RSl scE S w x xs) (hy : RSl scE S w y ys) (hb : xs.length ≤ 1000000) :
    Calls Tryd.prog 21 #[.slice x.a x.n x.c, .slice y.a y.n y.c] w (Ret S w [] fun v_ ls_ S_ w_ => v_ = .bool (decide (xs = ys))) := by
  have hxn := hx.n
  have hyn := hy.n
  refine Calls_of_VC (ls := []) ⟨[(0, .slice x.a x.n x.c), (1, .slice y.a y.n y.c)], []⟩ Tryd.func21 rfl (by kernel_rfl) (by kernel_rfl) hP ?_
  refine VC_go (hs := [0]) TOK [0, 1, 4] ⟨[(0, .slice x.a x.n x.c), (1, .slice y.a y.n y.c), (4, .bool false)], []⟩ [] (by kernel_rfl) (by kernel_rfl) ?_
  refine VC_seq ?_
  refine VC_go (hs := [0, 0, 0, 0, 0]) TOK [0, 1, 4, 10] ⟨[(0, .slice x.a x.n x.c), (1, .slice y.a y.n y.c), (4, .bool false), (10, .bool ((x.n : Int) != (y.n : Int)))], []⟩ [] (by kernel_rfl) (by kernel_rfl) ?_
  refine VC_cond ((x.n : Int) != (y.n : Int)) (by kernel_rfl) (fun h1 => ?_) (fun h1 => ?_)
  · skip
    replace h1 := bne_iff_ne.1 h1
    refine VC_go (hs := [0]) TOK [0, 1, 4] ⟨[(0, .slice x.a x.n x.c), (1, .slice y.a y.n y.c), (4, .bool false)], []⟩ [] (by kernel_rfl) (by kernel_rfl) ?_
    refine VC_ret (ls := []) TOK [] 0 false [] [.bool false] [] ([]) rfl (by kernel_rfl) (by kernel_rfl) (fun w9 hx9 => ?_)
    show (.bool false : Value) = .bool (decide (xs = ys))
    first
      | exact congrArg Value.bool (decide_eq_false (same_len hx hy (by assumption))).symm
      | exact congrArg Value.bool (decide_eq_false (same_at _ _ (by assumption))).symm
      | exact congrArg Value.bool (decide_eq_true (same_all (i := i) (by assumption) hx hy (by omega))).symm
  · skip
    replace h1 : (x.n : Int) = (y.n : Int) := by simpa using h1
    refine VC_skip ?_
    refine KE_then ?_
    refine VC_seq ?_
    refine VC_go (hs := [0, 0, 0]) TOK [0, 1, 4, 12, 13] ⟨[(0, .slice x.a x.n x.c), (1, .slice y.a y.n y.c), (4, .bool false), (12, .int .i64 (x.n : Int)), (13, .int .i64 0)], []⟩ [] (by kernel_rfl) (by kernel_rfl) ?_
    refine VC_block ?_
    refine VC_keep [0, 1, 12, 13] [] 0 ⟨[(0, .slice x.a x.n x.c), (1, .slice y.a y.n y.c), (12, .int .i64 (x.n : Int)), (13, .int .i64 (0 : Int))], []⟩ (by kernel_rfl) (by kernel_rfl) ?_
    refine VC_loop (J := fun m_ S' w' st_ => ∃ (i : Nat), (i ≤ x.n) ∧ (xs.take i = ys.take i) ∧ m_ = x.n - i ∧ Ext S w S' w' ∧ st_ = ⟨[(0, .slice x.a x.n x.c), (1, .slice y.a y.n y.c), (12, .int .i64 (x.n : Int)), (13, .int .i64 (i : Int))], []⟩) (x.n - 0) ⟨0, (by exact Nat.zero_le _), (by rfl), rfl, Ext.refl _ _, rfl⟩ ?_
    rintro _ S2 w3 _ ⟨i, hi, ht, rfl, hx4, rfl⟩
    have hx := hx.ext hx4
    have hy := hy.ext hx4
    -- a round
    refine VC_go (hs := [0]) TOK [0, 1, 12, 13, 14] ⟨[(0, .slice x.a x.n x.c), (1, .slice y.a y.n y.c), (12, .int .i64 (x.n : Int)), (13, .int .i64 (i : Int)), (14, .bool (decide ((i : Int) < (x.n : Int))))], []⟩ [] (by kernel_rfl) (by kernel_rfl) ?_
    refine VC_seq ?_
    refine VC_cond (decide ((i : Int) < (x.n : Int))) (by kernel_rfl) (fun h5 => ?_) (fun h5 => ?_)
    · skip
      replace h5 := of_decide_eq_true h5
      refine VC_skip ?_
      refine KE_then ?_
      refine VC_seq ?_
      refine VC_block ?_
      refine VC_go (hs := [0, 0]) TOK [0, 1, 5, 12, 13] ⟨[(0, .slice x.a x.n x.c), (1, .slice y.a y.n y.c), (5, .int .i64 (i : Int)), (12, .int .i64 (x.n : Int)), (13, .int .i64 (i : Int))], []⟩ [] (by kernel_rfl) (by kernel_rfl) ?_
      refine VC_seq ?_
      refine VC_draw MIX [] 9 rfl ?_
      refine RVd_take (fuel' := 5) TOK [] [(0, 0), (1, 0), (4, 0), (5, 0)] [0, 1, 12, 13, 16, 17, 20, 21] [] #[true, true, false, false, true, true, false, false, false] [(0, .slice x.a x.n x.c), (1, .slice y.a y.n y.c), (12, .int .i64 (x.n : Int)), (13, .int .i64 (i : Int)), (16, .slice x.a x.n x.c), (17, .int .i64 (i : Int)), (20, .slice y.a y.n y.c), (21, .int .i64 (i : Int))] [] [] (by kernel_rfl) (by kernel_rfl) (by kernel_rfl) (by kernel_rfl) ROL_nil trivial ?_
      obtain ⟨b6, o7, ha8⟩ := hx.addr (Nat.lt_of_le_of_lt (Nat.zero_le i) (by have := hx.n; omega))
      refine RVd_st ⟨[(0, .slice (some ⟨b6, o7, none⟩) x.n x.c), (1, .slice y.a y.n y.c), (12, .int .i64 (x.n : Int)), (13, .int .i64 (i : Int)), (16, .slice (some ⟨b6, o7, none⟩) x.n x.c), (17, .int .i64 (i : Int)), (20, .slice y.a y.n y.c), (21, .int .i64 (i : Int))], []⟩ (by simp only [ha8]) ?_
      obtain ⟨vs_, hro9, ⟨rfl, hr1, hr2, hr3⟩⟩ := hx.here ha8 i (by have := hx.n; omega)
      refine RVd_take (fuel' := 3) TOK [⟨b6, o7 + i * 3, [.int .i64 ((xs[i]'(by have := hx.n; omega)).no), .int .i64 ((xs[i]'(by have := hx.n; omega)).a), .int .i64 ((xs[i]'(by have := hx.n; omega)).b)]⟩] [(2, 0), (3, 1000)] [0, 1, 12, 13, 19, 20, 21] [] #[true, true, true, true, true, true, false, false, false] [(0, .slice (some ⟨b6, o7, none⟩) x.n x.c), (1, .slice y.a y.n y.c), (12, .int .i64 (x.n : Int)), (13, .int .i64 (i : Int)), (19, .agg #[.int .i64 ((xs[i]'(by have := hx.n; omega)).no), .int .i64 ((xs[i]'(by have := hx.n; omega)).a), .int .i64 ((xs[i]'(by have := hx.n; omega)).b)]), (20, .slice y.a y.n y.c), (21, .int .i64 (i : Int))] [b6, o7 + i * 3] [.lt (i : Int) x.n] (by kernel_rfl) (by kernel_rfl) (by kernel_rfl) (by kernel_rfl) (ROL_std hro9 ROL_nil) (by simp only [Conds, Cond.holds, and_true]; omega) ?_
      obtain ⟨b10, o11, ha12⟩ := hy.addr (Nat.lt_of_le_of_lt (Nat.zero_le i) (by have := hy.n; omega))
      refine RVd_st ⟨[(0, .slice (some ⟨b6, o7, none⟩) x.n x.c), (1, .slice (some ⟨b10, o11, none⟩) y.n y.c), (12, .int .i64 (x.n : Int)), (13, .int .i64 (i : Int)), (19, .agg #[.int .i64 ((xs[i]'(by have := hx.n; omega)).no), .int .i64 ((xs[i]'(by have := hx.n; omega)).a), .int .i64 ((xs[i]'(by have := hx.n; omega)).b)]), (20, .slice (some ⟨b10, o11, none⟩) y.n y.c), (21, .int .i64 (i : Int))], []⟩ (by simp only [ha12]) ?_
      obtain ⟨vs_, hro13, ⟨rfl, hr1, hr2, hr3⟩⟩ := hy.here ha12 i (by have := hy.n; omega)
      refine RVd_take (fuel' := 1) TOK [⟨b6, o7 + i * 3, [.int .i64 ((xs[i]'(by have := hx.n; omega)).no), .int .i64 ((xs[i]'(by have := hx.n; omega)).a), .int .i64 ((xs[i]'(by have := hx.n; omega)).b)]⟩, ⟨b10, o11 + i * 3, [.int .i64 ((ys[i]'(by have := hy.n; omega)).no), .int .i64 ((ys[i]'(by have := hy.n; omega)).a), .int .i64 ((ys[i]'(by have := hy.n; omega)).b)]⟩] [(6, 0), (7, 1100)] [0, 1, 12, 13, 19, 23] [] #[true, true, true, true, true, true, true, true, false] [(0, .slice (some ⟨b6, o7, none⟩) x.n x.c), (1, .slice (some ⟨b10, o11, none⟩) y.n y.c), (12, .int .i64 (x.n : Int)), (13, .int .i64 (i : Int)), (19, .agg #[.int .i64 ((xs[i]'(by have := hx.n; omega)).no), .int .i64 ((xs[i]'(by have := hx.n; omega)).a), .int .i64 ((xs[i]'(by have := hx.n; omega)).b)]), (23, .agg #[.int .i64 ((ys[i]'(by have := hy.n; omega)).no), .int .i64 ((ys[i]'(by have := hy.n; omega)).a), .int .i64 ((ys[i]'(by have := hy.n; omega)).b)])] [b10, o11 + i * 3] [.lt (i : Int) y.n] (by kernel_rfl) (by kernel_rfl) (by kernel_rfl) (by kernel_rfl) (ROL_std hro9 (ROL_std hro13 ROL_nil)) (by simp only [Conds, Cond.holds, and_true]; omega) ?_
      refine RVd_eq (fuel := 0) TOK STOK 8 20 [0, 1, 12, 13, 24] [] #[true, true, true, true, true, true, true, true, true] ⟨[(0, .slice (some ⟨b6, o7, none⟩) x.n x.c), (1, .slice (some ⟨b10, o11, none⟩) y.n y.c), (12, .int .i64 (x.n : Int)), (13, .int .i64 (i : Int)), (24, .bool (!((((xs[i]'(by have := hx.n; omega)).no) == ((ys[i]'(by have := hy.n; omega)).no)) && ((((xs[i]'(by have := hx.n; omega)).a) == ((ys[i]'(by have := hy.n; omega)).a)) && (((xs[i]'(by have := hx.n; omega)).b) == ((ys[i]'(by have := hy.n; omega)).b))))))], []⟩ (by kernel_rfl) (by kernel_rfl) rfl (by kernel_rfl) (by kernel_rfl) ?_
      refine RVd_end (by kernel_rfl) ?_
      refine KE_then ?_
      refine VC_cond (!((((xs[i]'(by have := hx.n; omega)).no) == ((ys[i]'(by have := hy.n; omega)).no)) && ((((xs[i]'(by have := hx.n; omega)).a) == ((ys[i]'(by have := hy.n; omega)).a)) && (((xs[i]'(by have := hx.n; omega)).b) == ((ys[i]'(by have := hy.n; omega)).b))))) (by kernel_rfl) (fun h14 => ?_) (fun h14 => ?_)
      · skip
        refine VC_go (hs := [0]) TOK [0, 1, 4, 12, 13] ⟨[(0, .slice (some ⟨b6, o7, none⟩) x.n x.c), (1, .slice (some ⟨b10, o11, none⟩) y.n y.c), (4, .bool false), (12, .int .i64 (x.n : Int)), (13, .int .i64 (i : Int))], []⟩ [] (by kernel_rfl) (by kernel_rfl) ?_
        refine VC_ret (ls := []) TOK [] 0 false [] [.bool false] [] ([]) rfl (by kernel_rfl) (by kernel_rfl) (fun w9 hx9 => ?_)
        show (.bool false : Value) = .bool (decide (xs = ys))
        first
          | exact congrArg Value.bool (decide_eq_false (same_len hx hy (by assumption))).symm
          | exact congrArg Value.bool (decide_eq_false (same_at _ _ (by assumption))).symm
          | exact congrArg Value.bool (decide_eq_true (same_all (i := i) (by assumption) hx hy (by omega))).symm
      · skip
        refine VC_skip ?_
        refine KE_block ?_
        refine KE_then ?_
        refine VC_region 2 rfl ?_
        refine RV_go (hs := [0]) (c' := 1) (k' := 1) TOK [0, 1, 12, 13, 25] ⟨[(0, .slice (some ⟨b6, o7, none⟩) x.n x.c), (1, .slice (some ⟨b10, o11, none⟩) y.n y.c), (12, .int .i64 (x.n : Int)), (13, .int .i64 (i : Int)), (25, .int .i64 (IntKind.i64.wrap ((i : Int) + 1)))], []⟩ [] (by kernel_rfl) (by kernel_rfl) ?_
        refine RV_st ⟨[(0, .slice (some ⟨b6, o7, none⟩) x.n x.c), (1, .slice (some ⟨b10, o11, none⟩) y.n y.c), (12, .int .i64 (x.n : Int)), (13, .int .i64 (i : Int)), (25, .int .i64 ((i : Int) + 1))], []⟩ (by rw [wrap_id (x := (i : Int) + 1) (by unfold InR; omega)]) ?_
        refine RV_go (hs := [0]) (c' := 0) (k' := 2) TOK [0, 1, 12, 13] ⟨[(0, .slice (some ⟨b6, o7, none⟩) x.n x.c), (1, .slice (some ⟨b10, o11, none⟩) y.n y.c), (12, .int .i64 (x.n : Int)), (13, .int .i64 ((i : Int) + 1))], []⟩ [] (by kernel_rfl) (by kernel_rfl) ?_
        refine RV_end ?_
        refine KE_st ⟨[(0, .slice x.a x.n x.c), (1, .slice y.a y.n y.c), (12, .int .i64 (x.n : Int)), (13, .int .i64 ((i : Int) + 1))], []⟩ (by simp only [ha8, ha12]) ?_
        refine KE_rnd (x.n - (i + 1)) [0, 1, 12, 13] [] 0 ⟨[(0, .slice x.a x.n x.c), (1, .slice y.a y.n y.c), (12, .int .i64 (x.n : Int)), (13, .int .i64 (((i + 1) : Nat) : Int))], []⟩ (by kernel_rfl) (by kernel_rfl) (by omega) ⟨(i + 1), (by omega), (by exact same_step _ _ ht (by assumption)), rfl, hx4, rfl⟩
    · skip
      replace h5 := of_decide_eq_false h5
      refine VC_exit ?_
      refine KE_exit_then ?_
      refine KE_exit_then ?_
      refine KE_exit_here ?_
      refine KE_then ?_
      refine VC_go (hs := [0]) TOK [4] ⟨[(4, .bool true)], []⟩ [] (by kernel_rfl) (by kernel_rfl) ?_
      refine VC_ret (ls := []) TOK [] 0 false [] [.bool true] [] ([]) rfl (by kernel_rfl) (by kernel_rfl) (fun w9 hx9 => ?_)
      show (.bool true : Value) = .bool (decide (xs = ys))
      first
        | exact congrArg Value.bool (decide_eq_false (same_len hx hy (by assumption))).symm
        | exact congrArg Value.bool (decide_eq_false (same_at _ _ (by assumption))).symm
        | exact congrArg Value.bool (decide_eq_true (same_all (i := i) (by assumption) hx hy (by omega))).symm

end Go.YtmfkmoecbnghhaaDoor
