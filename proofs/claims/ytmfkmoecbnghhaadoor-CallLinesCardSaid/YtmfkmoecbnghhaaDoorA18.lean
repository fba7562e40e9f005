/- Contracts of functions, over the symbolic executor: each comes to what its theorem says. Written by gen.py, a program of this work. -/
import Derived.Test.YtmfkmoecbnghhaaDoorA17
namespace Go.YtmfkmoecbnghhaaDoor
open Go Eng Go.Proofs Law Go.RowKit
set_option linter.unusedVariables false
set_option linter.unusedSimpArgs false

def atP (xs : List Sc) (k i : Nat) : Nat := if 0 < k ∧ (printL (xs.take k)).length ≤ i then (printL (xs.take k)).length else 0
theorem cnt_yes {s : List UInt8} {i : Nat} {c : UInt8} (hi : i < s.length) (h : ((s.getD i 0).toNat : Int) = (c.toNat : Int)) : (s.take i).count c + 1 = (s.take (i + 1)).count c := by
  have e : s[i] = c := by
    rw [List.getD_eq_getElem?_getD, List.getElem?_eq_getElem hi] at h
    simp only [Option.getD_some] at h
    exact UInt8.toNat_inj.1 (by omega)
  rw [List.take_add_one, List.getElem?_eq_getElem hi, e]
  simp
theorem cnt_no {s : List UInt8} {i : Nat} {c : UInt8} (hi : i < s.length) (h : ((s.getD i 0).toNat : Int) ≠ (c.toNat : Int)) : (s.take i).count c = (s.take (i + 1)).count c := by
  have e : s[i] ≠ c := by
    rintro rfl
    rw [List.getD_eq_getElem?_getD, List.getElem?_eq_getElem hi] at h
    simp at h
  rw [List.take_add_one, List.getElem?_eq_getElem hi, List.count_append]
  simp only [Option.toList_some, List.count_cons, List.count_nil]
  rw [if_neg (by simpa using e)]
  rfl
theorem count_print {c : UInt8} {m : Nat} (hm : ∀ d, Wr d → (scL d).count c = m) : ∀ {xs : List Sc}, (∀ d ∈ xs, Wr d) → (printL xs).count c = m * xs.length
  | [], _ => by simp [printL]
  | d :: xs, h => by
    have h1 := hm d (h d (by simp))
    have h2 := count_print hm fun e he => h e (List.mem_cons_of_mem _ he)
    simp only [printL, List.count_append, List.length_cons, h1, h2, Nat.mul_add]
    omega
theorem take_print (xs : List Sc) (k : Nat) : (printL xs).take (printL (xs.take k)).length = printL (xs.take k) := by
  conv => lhs; rw [← List.take_append_drop k xs, printL_app]
  rw [List.take_append_drop]
  exact List.take_left' rfl
theorem print_last {xs : List Sc} (h : xs ≠ []) : ∃ A, printL xs = A ++ [10] := by
  obtain ⟨ys, y, rfl⟩ : ∃ ys y, xs = ys ++ [y] := ⟨xs.dropLast, xs.getLast h, (List.dropLast_concat_getLast h).symm⟩
  rw [printL_app]
  refine ⟨printL ys ++ (wordL y.no.toNat ++ 32 :: (Lib.itoa y.a ++ 32 :: Lib.itoa y.b)), ?_⟩
  simp only [printL, List.append_nil]
  rw [scL_eq]
  simp
theorem at_key {xs : List Sc} (hw : ∀ d ∈ xs, Wr d) {k i : Nat} (hk : k ≤ xs.length) (hi : i < (printL xs).length) : (0 < k ∧ i + 1 = (printL (xs.take k)).length) ↔ ((printL xs)[i] = 10 ∧ ((printL xs).take (i + 1)).count 10 = k) := by
  have hwk : ∀ d ∈ xs.take k, Wr d := fun d h => hw d (List.mem_of_mem_take h)
  have hcnt : (printL (xs.take k)).count 10 = k := by
    rw [count_print (fun d h => count_lf h) hwk, List.length_take, Nat.min_eq_left hk, Nat.one_mul]
  have htp := take_print xs k
  constructor
  · rintro ⟨h0, h1⟩
    obtain ⟨A, hA⟩ := print_last (xs := xs.take k) (by intro e; have := congrArg List.length e; rw [List.length_take] at this; simp only [List.length_nil] at this; omega)
    refine ⟨?_, by rw [h1, htp, hcnt]⟩
    have h2 : (printL xs)[i]? = some 10 := by
      have h3 : ((printL xs).take (printL (xs.take k)).length)[i]? = some 10 := by
        rw [htp, hA]
        have : i = A.length := by rw [hA] at h1; simp at h1; omega
        rw [this]; simp
      rw [List.getElem?_take, if_pos (by omega)] at h3
      exact h3
    rw [List.getElem?_eq_getElem hi] at h2
    simpa using h2
  · rintro ⟨h1, h2⟩
    have hk0 : 0 < k := by
      rw [← h2, List.take_add_one, List.getElem?_eq_getElem hi, h1]
      simp
    refine ⟨hk0, ?_⟩
    rcases Nat.lt_trichotomy (i + 1) (printL (xs.take k)).length with h3 | h3 | h3
    · exfalso
      obtain ⟨A, hA⟩ := print_last (xs := xs.take k) (by intro e; have := congrArg List.length e; rw [List.length_take] at this; simp only [List.length_nil] at this; omega)
      have hAl : (printL (xs.take k)).length = A.length + 1 := by rw [hA]; simp
      have h4 : (printL xs).take (i + 1) = A.take (i + 1) := by
        have : (printL xs).take (i + 1) = ((printL xs).take (printL (xs.take k)).length).take (i + 1) := by rw [List.take_take]; congr 1; omega
        rw [this, htp, hA, List.take_append_of_le_length (by omega)]
      rw [h4] at h2
      have h5 : (A.take (i + 1)).count 10 ≤ A.count 10 := (List.take_sublist _ _).count_le _
      rw [hA, List.count_append] at hcnt
      simp at hcnt
      omega
    · exact h3
    · exfalso
      have h4 : ((printL xs).take i).count 10 + 1 = k := by
        rw [← h2, List.take_add_one, List.getElem?_eq_getElem hi, h1]
        simp
      have h5 : (printL (xs.take k)).count 10 ≤ ((printL xs).take i).count 10 := by
        rw [← htp, show (printL xs).take (printL (xs.take k)).length = ((printL xs).take i).take (printL (xs.take k)).length from by rw [List.take_take]; congr 1; omega]
        exact (List.take_sublist _ _).count_le _
      omega
theorem at_hit {xs : List Sc} (hw : ∀ d ∈ xs, Wr d) {k i e : Nat} (hk : k ≤ xs.length) (hi : i < (printL xs).length) (h1 : (((printL xs).getD i 0).toNat : Int) = ((10 : UInt8).toNat : Int)) (he : e = ((printL xs).take i).count 10) (h2 : (e : Int) + 1 = (k : Int)) : i + 1 = atP xs k (i + 1) := by
  have h3 := cnt_yes hi h1
  have h4 : (printL xs)[i] = 10 := by
    rw [List.getD_eq_getElem?_getD, List.getElem?_eq_getElem hi] at h1
    simp only [Option.getD_some] at h1
    exact UInt8.toNat_inj.1 (by omega)
  have := (at_key hw hk hi).2 ⟨h4, by omega⟩
  unfold atP
  rw [if_pos ⟨this.1, by omega⟩]
  exact this.2
theorem at_miss {xs : List Sc} (hw : ∀ d ∈ xs, Wr d) {k i e : Nat} (hk : k ≤ xs.length) (hi : i < (printL xs).length) (he : e = ((printL xs).take i).count 10)
    (h : (((printL xs).getD i 0).toNat : Int) ≠ ((10 : UInt8).toNat : Int) ∨ ((((printL xs).getD i 0).toNat : Int) = ((10 : UInt8).toNat : Int) ∧ (e : Int) + 1 ≠ (k : Int))) : atP xs k i = atP xs k (i + 1) := by
  have hn : ¬ (0 < k ∧ i + 1 = (printL (xs.take k)).length) := fun h0 => by
    obtain ⟨h1, h2⟩ := (at_key hw hk hi).1 h0
    have h3 : (((printL xs).getD i 0).toNat : Int) = ((10 : UInt8).toNat : Int) := by
      rw [List.getD_eq_getElem?_getD, List.getElem?_eq_getElem hi, h1]; rfl
    rcases h with h | h
    · exact h h3
    · have := cnt_yes hi h3
      omega
  unfold atP
  by_cases h0 : 0 < k ∧ (printL (xs.take k)).length ≤ i
  · rw [if_pos h0, if_pos ⟨h0.1, by omega⟩]
  · rw [if_neg h0, if_neg (by omega)]
theorem at_zero (xs : List Sc) (k : Nat) : 0 = atP xs k 0 := by
  unfold atP
  by_cases h : 0 < k ∧ (printL (xs.take k)).length ≤ 0
  · rw [if_pos h]; omega
  · rw [if_neg h]
theorem at_end {xs : List Sc} (hw : ∀ d ∈ xs, Wr d) {k i : Nat} (hk : k ≤ xs.length) (hi : (printL xs).length ≤ i) : atP xs k i = (printL (xs.take k)).length := by
  unfold atP
  by_cases h0 : 0 < k
  · refine if_pos ⟨h0, ?_⟩
    have := congrArg List.length (take_print xs k)
    rw [List.length_take] at this
    omega
  · have : k = 0 := by omega
    subst this
    rfl
theorem tmod_k {cut : Int} {n : Nat} (h : 0 ≤ cut) : ∃ k : Nat, Int.tmod cut ((n : Int) + 1) = (k : Int) ∧ k ≤ n := by
  rw [Int.tmod_eq_emod_of_nonneg h]
  have h1 := Int.emod_nonneg cut (show ((n : Int) + 1) ≠ 0 by omega)
  have h2 := Int.emod_lt_of_pos cut (show (0 : Int) < (n : Int) + 1 by omega)
  exact ⟨(cut % ((n : Int) + 1)).toNat, by omega, by omega⟩
theorem sp_take {xs : List Sc} (hw : ∀ d ∈ xs, Wr d) {k p : Nat} (hp : p = (printL (xs.take k)).length) : Split ((printL xs).take p) (xs.take k) [] := by
  subst hp
  rw [take_print]
  exact Split.print fun d h => hw d (List.mem_of_mem_take h)

theorem f6 (x : Sl) (xs : List Sc) (cut : Int) (S : Nat → Prop) (w : World) (hP : Pre S w []) (hG : Glob S w) (hx : RSl scE S w x xs) (hc1 : 0 ≤ cut) (hc2 : cut ≤ 255) :
    Calls Tryd.prog 6 #[.slice x.a x.n x.c, .int .u8 cut] w (Ret S w [] fun v_ ls_ S_ w_ => v_ = .bool true) := by
  have hxn := hx.n
  have hxc := hx.c
  refine Calls_of_VC (ls := []) ⟨[(0, .slice x.a x.n x.c), (1, .int .u8 cut)], []⟩ Tryd.func6 rfl (by kernel_rfl) (by kernel_rfl) hP ?_
  refine VC_go (hs := [0]) TOK [0, 1, 4] ⟨[(0, .slice x.a x.n x.c), (1, .int .u8 cut), (4, .bool false)], []⟩ [] (by kernel_rfl) (by kernel_rfl) ?_
  refine VC_seq ?_
  refine VC_region 2 rfl ?_
  refine RV_call (c := 1) (f := 8) (vs := []) (dst := (some 15)) (by kernel_rfl) E8 (fun wa hxe hp => f8 _ wa hp (hG.ext hxe)) ?_
  rintro S1 w2 v3 _ hx4 rfl
  have hG := hG.ext hx4
  have hx := hx.ext hx4
  refine RV_go (hs := [0]) (c' := 0) (k' := 2) TOK [0, 1, 4, 5] ⟨[(0, .slice x.a x.n x.c), (1, .int .u8 cut), (4, .bool false), (5, .bool true)], []⟩ [] (by kernel_rfl) (by kernel_rfl) ?_
  refine RV_end ?_
  refine KE_then ?_
  refine VC_seq ?_
  refine VC_seq ?_
  refine VC_region 8 rfl ?_
  refine RV_go (hs := [0, 0, 0, 0]) (c' := 4) (k' := 4) TOK [0, 1, 4, 5, 19] ⟨[(0, .slice x.a x.n x.c), (1, .int .u8 cut), (4, .bool false), (5, .bool true), (19, .bool (decide ((x.n : Int) > 30)))], []⟩ [] (by kernel_rfl) (by kernel_rfl) ?_
  refine RV_case (decide ((x.n : Int) > 30)) (fun bb => ⟨[(0, .slice x.a x.n x.c), (1, .int .u8 cut), (4, .bool false), (5, .bool true), (19, .bool bb)], []⟩) (by kernel_rfl) (fun h5 => ?_) (fun h5 => ?_)
  · skip
    replace h5 := of_decide_eq_true h5
    refine RV_go (hs := [0, 0, 0, 0]) (c' := 0) (k' := 8) TOK [0, 1, 4, 5, 23] ⟨[(0, .slice x.a x.n x.c), (1, .int .u8 cut), (4, .bool false), (5, .bool true), (23, .bool true)], []⟩ [] (by kernel_rfl) (by kernel_rfl) ?_
    refine RV_end ?_
    refine KE_then ?_
    refine VC_true (by kernel_rfl) ?_
    refine VC_go (hs := [0, 0]) TOK [0, 1, 4, 5] ⟨[(0, .slice x.a x.n x.c), (1, .int .u8 cut), (4, .bool true), (5, .bool true)], []⟩ [] (by kernel_rfl) (by kernel_rfl) ?_
    refine VC_ret (ls := []) TOK [] 0 false [] [.bool true] [] ([]) rfl (by kernel_rfl) (by kernel_rfl) (fun w9 hx9 => ?_)
    show (.bool true : Value) = .bool true
    rfl
  · skip
    replace h5 := of_decide_eq_false h5
    refine RV_go (hs := [0]) (c' := 3) (k' := 5) TOK [0, 1, 4, 5, 19, 20] ⟨[(0, .slice x.a x.n x.c), (1, .int .u8 cut), (4, .bool false), (5, .bool true), (19, .bool false), (20, .slice x.a x.n x.c)], []⟩ [] (by kernel_rfl) (by kernel_rfl) ?_
    refine RV_call (c := 2) (f := 13) (vs := [.slice x.a x.n x.c]) (dst := (some 21)) (by kernel_rfl) E13 (fun wa hxe hp => f13 x xs _ wa hp (hx.ext hxe) (by omega)) ?_
    rintro S6 w7 v8 _ hx9 rfl
    have hG := hG.ext hx9
    have hx := hx.ext hx9
    refine RV_go (hs := [0, 0]) (c' := 0) (k' := 8) TOK [0, 1, 4, 5, 23] ⟨[(0, .slice x.a x.n x.c), (1, .int .u8 cut), (4, .bool false), (5, .bool true), (23, .bool (!(decide (∀ c ∈ xs, Wr c))))], []⟩ [] (by kernel_rfl) (by kernel_rfl) ?_
    refine RV_end ?_
    refine KE_then ?_
    refine VC_cond (!(decide (∀ c ∈ xs, Wr c))) (by kernel_rfl) (fun h10 => ?_) (fun h10 => ?_)
    · skip
      have h10 : (decide (∀ c ∈ xs, Wr c)) = false := by simpa using h10
      refine VC_go (hs := [0, 0]) TOK [0, 1, 4, 5] ⟨[(0, .slice x.a x.n x.c), (1, .int .u8 cut), (4, .bool true), (5, .bool true)], []⟩ [] (by kernel_rfl) (by kernel_rfl) ?_
      refine VC_ret (ls := []) TOK [] 0 false [] [.bool true] [] ([]) rfl (by kernel_rfl) (by kernel_rfl) (fun w9 hx9 => ?_)
      show (.bool true : Value) = .bool true
      rfl
    · skip
      have h10 : (decide (∀ c ∈ xs, Wr c)) = true := by simpa using h10
      have hw_xs := of_decide_eq_true h10
      have hpl_xs := print_len hw_xs
      refine VC_skip ?_
      refine KE_then ?_
      refine VC_seq ?_
      refine VC_region 3 rfl ?_
      refine RV_go (hs := [0]) (c' := 2) (k' := 1) TOK [0, 1, 4, 5, 25] ⟨[(0, .slice x.a x.n x.c), (1, .int .u8 cut), (4, .bool false), (5, .bool true), (25, .slice x.a x.n x.c)], []⟩ [] (by kernel_rfl) (by kernel_rfl) ?_
      refine RV_call (c := 1) (f := 14) (vs := [.slice x.a x.n x.c]) (dst := (some 26)) (by kernel_rfl) E14 (fun wa hxe hp => f14 x xs _ wa hp (hG.ext hxe) (hx.ext hxe) hw_xs (by first | omega | decide | (simp only [List.length_append]; omega))) ?_
      rintro S11 w12 v13 _ hx14 rfl
      have hG := hG.ext hx14
      have hx := hx.ext hx14
      refine RV_go (hs := [0]) (c' := 0) (k' := 3) TOK [0, 1, 4, 5, 6] ⟨[(0, .slice x.a x.n x.c), (1, .int .u8 cut), (4, .bool false), (5, .bool true), (6, .string (B (printL xs)))], []⟩ [] (by kernel_rfl) (by kernel_rfl) ?_
      refine RV_end ?_
      refine KE_then ?_
      refine VC_seq ?_
      refine VC_region 7 rfl ?_
      refine RV_go (hs := [0, 0]) (c' := 5) (k' := 2) TOK [0, 4, 5, 6, 28] ⟨[(0, .slice x.a x.n x.c), (4, .bool false), (5, .bool true), (6, .string (B (printL xs))), (28, .int .i64 (IntKind.i64.wrap cut))], []⟩ [] (by kernel_rfl) (by kernel_rfl) ?_
      refine RV_st ⟨[(0, .slice x.a x.n x.c), (4, .bool false), (5, .bool true), (6, .string (B (printL xs))), (28, .int .i64 cut)], []⟩ (by rw [wrap_id (x := cut) (by unfold InR; omega)]) ?_
      refine RV_go (hs := [0, 0, 0]) (c' := 2) (k' := 5) TOK [0, 4, 5, 6, 28, 31] ⟨[(0, .slice x.a x.n x.c), (4, .bool false), (5, .bool true), (6, .string (B (printL xs))), (28, .int .i64 cut), (31, .int .i64 (IntKind.i64.wrap ((x.n : Int) + 1)))], []⟩ [] (by kernel_rfl) (by kernel_rfl) ?_
      refine RV_st ⟨[(0, .slice x.a x.n x.c), (4, .bool false), (5, .bool true), (6, .string (B (printL xs))), (28, .int .i64 cut), (31, .int .i64 ((x.n : Int) + 1))], []⟩ (by rw [wrap_id (x := (x.n : Int) + 1) (by unfold InR; omega)]) ?_
      refine RV_run (hs := [0, 0]) (c' := 0) (k' := 7) TOK [] [0, 4, 5, 6, 7] ⟨[(0, .slice x.a x.n x.c), (4, .bool false), (5, .bool true), (6, .string (B (printL xs))), (7, .int .i64 (Int.tmod cut ((x.n : Int) + 1)))], []⟩ [] [.ne0 ((x.n : Int) + 1)] (by kernel_rfl) (by kernel_rfl) ROS_nil (by simp only [Conds, Cond.holds, and_true]; omega) ?_
      refine RV_end ?_
      refine KE_then ?_
      refine VC_seq ?_
      obtain ⟨k, hk1, hk2⟩ := tmod_k (n := x.n) (show (0 : Int) ≤ cut from by omega)
      refine VC_st ⟨[(0, .slice x.a x.n x.c), (4, .bool false), (5, .bool true), (6, .string (B (printL xs))), (7, .int .i64 (k : Int))], []⟩ (by rw [hk1]) ?_
      refine VC_region 1 rfl ?_
      refine RV_go (hs := [0]) (c' := 0) (k' := 1) TOK [0, 4, 5, 6, 7, 8] ⟨[(0, .slice x.a x.n x.c), (4, .bool false), (5, .bool true), (6, .string (B (printL xs))), (7, .int .i64 (k : Int)), (8, .int .i64 0)], []⟩ [] (by kernel_rfl) (by kernel_rfl) ?_
      refine RV_end ?_
      refine KE_then ?_
      refine VC_go (hs := [0]) TOK [0, 4, 5, 6, 7, 8, 9] ⟨[(0, .slice x.a x.n x.c), (4, .bool false), (5, .bool true), (6, .string (B (printL xs))), (7, .int .i64 (k : Int)), (8, .int .i64 0), (9, .int .i64 0)], []⟩ [] (by kernel_rfl) (by kernel_rfl) ?_
      refine VC_go (hs := [0]) TOK [0, 4, 5, 6, 7, 8, 9, 10] ⟨[(0, .slice x.a x.n x.c), (4, .bool false), (5, .bool true), (6, .string (B (printL xs))), (7, .int .i64 (k : Int)), (8, .int .i64 0), (9, .int .i64 0), (10, .int .i64 0)], []⟩ [] (by kernel_rfl) (by kernel_rfl) ?_
      refine VC_seq ?_
      refine VC_go (hs := [0]) TOK [0, 4, 5, 6, 7, 8, 9, 10, 11] ⟨[(0, .slice x.a x.n x.c), (4, .bool false), (5, .bool true), (6, .string (B (printL xs))), (7, .int .i64 (k : Int)), (8, .int .i64 0), (9, .int .i64 0), (10, .int .i64 0), (11, .int .i64 0)], []⟩ [] (by kernel_rfl) (by kernel_rfl) ?_
      refine VC_block ?_
      refine VC_keep [0, 4, 5, 6, 7, 8, 9, 10, 11] [] 0 ⟨[(0, .slice x.a x.n x.c), (4, .bool false), (5, .bool true), (6, .string (B (printL xs))), (7, .int .i64 (k : Int)), (8, .int .i64 (0 : Int)), (9, .int .i64 (0 : Int)), (10, .int .i64 (0 : Int)), (11, .int .i64 (0 : Int))], []⟩ (by kernel_rfl) (by kernel_rfl) ?_
      refine VC_loop (J := fun m_ S' w' st_ => ∃ (i : Nat) (e : Nat) (b : Nat) (p : Nat), (i ≤ (printL xs).length) ∧ (e ≤ i ∧ b ≤ i) ∧ (e = ((printL xs).take i).count 10) ∧ (b = ((printL xs).take i).count 32) ∧ (p = atP xs k i) ∧ m_ = (printL xs).length - i ∧ Ext S11 w12 S' w' ∧ st_ = ⟨[(0, .slice x.a x.n x.c), (4, .bool false), (5, .bool true), (6, .string (B (printL xs))), (7, .int .i64 (k : Int)), (8, .int .i64 (e : Int)), (9, .int .i64 (b : Int)), (10, .int .i64 (p : Int)), (11, .int .i64 (i : Int))], []⟩) ((printL xs).length - 0) ⟨0, 0, 0, 0, (by exact Nat.zero_le _), (by omega), (by simp), (by simp), (by exact at_zero xs k), rfl, Ext.refl _ _, rfl⟩ ?_
      rintro _ S15 w16 _ ⟨i, e, b, p, hi, hei, he, hb, ha, rfl, hx17, rfl⟩
      have hG := hG.ext hx17
      have hx := hx.ext hx17
      -- a round
      refine VC_seq ?_
      refine VC_go (hs := [0, 0, 0, 0]) TOK [0, 4, 5, 6, 7, 8, 9, 10, 11, 36] ⟨[(0, .slice x.a x.n x.c), (4, .bool false), (5, .bool true), (6, .string (B (printL xs))), (7, .int .i64 (k : Int)), (8, .int .i64 (e : Int)), (9, .int .i64 (b : Int)), (10, .int .i64 (p : Int)), (11, .int .i64 (i : Int)), (36, .bool (decide ((i : Int) < ((printL xs).length : Int))))], []⟩ [] (by kernel_rfl) (by kernel_rfl) ?_
      refine VC_cond (decide ((i : Int) < ((printL xs).length : Int))) (by kernel_rfl) (fun h18 => ?_) (fun h18 => ?_)
      · skip
        replace h18 := of_decide_eq_true h18
        refine VC_skip ?_
        refine KE_then ?_
        refine VC_seq ?_
        refine VC_block ?_
        refine VC_seq ?_
        refine VC_seq ?_
        refine VC_region 4 rfl ?_
        refine RV_run (hs := [0, 0, 0, 0]) (c' := 0) (k' := 4) TOK [] [0, 4, 5, 6, 7, 8, 9, 10, 11, 42] ⟨[(0, .slice x.a x.n x.c), (4, .bool false), (5, .bool true), (6, .string (B (printL xs))), (7, .int .i64 (k : Int)), (8, .int .i64 (e : Int)), (9, .int .i64 (b : Int)), (10, .int .i64 (p : Int)), (11, .int .i64 (i : Int)), (42, .bool ((((printL xs).getD i 0).toNat : Int) == 32))], []⟩ [] [.lt (i : Int) (printL xs).length] (by kernel_rfl) (by kernel_rfl) ROS_nil (by simp only [Conds, Cond.holds, and_true]; omega) ?_
        refine RV_end ?_
        refine KE_then ?_
        refine VC_cond ((((printL xs).getD i 0).toNat : Int) == 32) (by kernel_rfl) (fun h19 => ?_) (fun h19 => ?_)
        · skip
          replace h19 := eq_of_beq h19
          refine VC_region 3 rfl ?_
          refine RV_go (hs := [0, 0]) (c' := 1) (k' := 2) TOK [0, 4, 5, 6, 7, 8, 9, 10, 11, 44] ⟨[(0, .slice x.a x.n x.c), (4, .bool false), (5, .bool true), (6, .string (B (printL xs))), (7, .int .i64 (k : Int)), (8, .int .i64 (e : Int)), (9, .int .i64 (b : Int)), (10, .int .i64 (p : Int)), (11, .int .i64 (i : Int)), (44, .int .i64 (IntKind.i64.wrap ((b : Int) + 1)))], []⟩ [] (by kernel_rfl) (by kernel_rfl) ?_
          refine RV_st ⟨[(0, .slice x.a x.n x.c), (4, .bool false), (5, .bool true), (6, .string (B (printL xs))), (7, .int .i64 (k : Int)), (8, .int .i64 (e : Int)), (9, .int .i64 (b : Int)), (10, .int .i64 (p : Int)), (11, .int .i64 (i : Int)), (44, .int .i64 ((b : Int) + 1))], []⟩ (by rw [wrap_id (x := (b : Int) + 1) (by unfold InR; omega)]) ?_
          refine RV_go (hs := [0]) (c' := 0) (k' := 3) TOK [0, 4, 5, 6, 7, 8, 9, 10, 11] ⟨[(0, .slice x.a x.n x.c), (4, .bool false), (5, .bool true), (6, .string (B (printL xs))), (7, .int .i64 (k : Int)), (8, .int .i64 (e : Int)), (9, .int .i64 ((b : Int) + 1)), (10, .int .i64 (p : Int)), (11, .int .i64 (i : Int))], []⟩ [] (by kernel_rfl) (by kernel_rfl) ?_
          refine RV_end ?_
          refine KE_then ?_
          refine VC_seq ?_
          refine VC_region 4 rfl ?_
          refine RV_run (hs := [0, 0, 0, 0]) (c' := 0) (k' := 4) TOK [] [0, 4, 5, 6, 7, 8, 9, 10, 11, 48] ⟨[(0, .slice x.a x.n x.c), (4, .bool false), (5, .bool true), (6, .string (B (printL xs))), (7, .int .i64 (k : Int)), (8, .int .i64 (e : Int)), (9, .int .i64 ((b : Int) + 1)), (10, .int .i64 (p : Int)), (11, .int .i64 (i : Int)), (48, .bool ((((printL xs).getD i 0).toNat : Int) == 10))], []⟩ [] [.lt (i : Int) (printL xs).length] (by kernel_rfl) (by kernel_rfl) ROS_nil (by simp only [Conds, Cond.holds, and_true]; omega) ?_
          refine RV_end ?_
          refine KE_then ?_
          refine VC_cond ((((printL xs).getD i 0).toNat : Int) == 10) (by kernel_rfl) (fun h20 => ?_) (fun h20 => ?_)
          · skip
            replace h20 := eq_of_beq h20
            refine VC_seq ?_
            refine VC_region 3 rfl ?_
            refine RV_go (hs := [0, 0]) (c' := 1) (k' := 2) TOK [0, 4, 5, 6, 7, 8, 9, 10, 11, 50] ⟨[(0, .slice x.a x.n x.c), (4, .bool false), (5, .bool true), (6, .string (B (printL xs))), (7, .int .i64 (k : Int)), (8, .int .i64 (e : Int)), (9, .int .i64 ((b : Int) + 1)), (10, .int .i64 (p : Int)), (11, .int .i64 (i : Int)), (50, .int .i64 (IntKind.i64.wrap ((e : Int) + 1)))], []⟩ [] (by kernel_rfl) (by kernel_rfl) ?_
            refine RV_st ⟨[(0, .slice x.a x.n x.c), (4, .bool false), (5, .bool true), (6, .string (B (printL xs))), (7, .int .i64 (k : Int)), (8, .int .i64 (e : Int)), (9, .int .i64 ((b : Int) + 1)), (10, .int .i64 (p : Int)), (11, .int .i64 (i : Int)), (50, .int .i64 ((e : Int) + 1))], []⟩ (by rw [wrap_id (x := (e : Int) + 1) (by unfold InR; omega)]) ?_
            refine RV_go (hs := [0]) (c' := 0) (k' := 3) TOK [0, 4, 5, 6, 7, 8, 9, 10, 11] ⟨[(0, .slice x.a x.n x.c), (4, .bool false), (5, .bool true), (6, .string (B (printL xs))), (7, .int .i64 (k : Int)), (8, .int .i64 ((e : Int) + 1)), (9, .int .i64 ((b : Int) + 1)), (10, .int .i64 (p : Int)), (11, .int .i64 (i : Int))], []⟩ [] (by kernel_rfl) (by kernel_rfl) ?_
            refine RV_end ?_
            refine KE_then ?_
            refine VC_go (hs := [0, 0, 0]) TOK [0, 4, 5, 6, 7, 8, 9, 10, 11, 53] ⟨[(0, .slice x.a x.n x.c), (4, .bool false), (5, .bool true), (6, .string (B (printL xs))), (7, .int .i64 (k : Int)), (8, .int .i64 ((e : Int) + 1)), (9, .int .i64 ((b : Int) + 1)), (10, .int .i64 (p : Int)), (11, .int .i64 (i : Int)), (53, .bool (((e : Int) + 1) == (k : Int)))], []⟩ [] (by kernel_rfl) (by kernel_rfl) ?_
            refine VC_cond (((e : Int) + 1) == (k : Int)) (by kernel_rfl) (fun h21 => ?_) (fun h21 => ?_)
            · skip
              replace h21 := eq_of_beq h21
              refine VC_region 3 rfl ?_
              refine RV_go (hs := [0, 0]) (c' := 1) (k' := 2) TOK [0, 4, 5, 6, 7, 8, 9, 10, 11, 55] ⟨[(0, .slice x.a x.n x.c), (4, .bool false), (5, .bool true), (6, .string (B (printL xs))), (7, .int .i64 (k : Int)), (8, .int .i64 ((e : Int) + 1)), (9, .int .i64 ((b : Int) + 1)), (10, .int .i64 (p : Int)), (11, .int .i64 (i : Int)), (55, .int .i64 (IntKind.i64.wrap ((i : Int) + 1)))], []⟩ [] (by kernel_rfl) (by kernel_rfl) ?_
              refine RV_st ⟨[(0, .slice x.a x.n x.c), (4, .bool false), (5, .bool true), (6, .string (B (printL xs))), (7, .int .i64 (k : Int)), (8, .int .i64 ((e : Int) + 1)), (9, .int .i64 ((b : Int) + 1)), (10, .int .i64 (p : Int)), (11, .int .i64 (i : Int)), (55, .int .i64 ((i : Int) + 1))], []⟩ (by rw [wrap_id (x := (i : Int) + 1) (by unfold InR; omega)]) ?_
              refine RV_go (hs := [0]) (c' := 0) (k' := 3) TOK [0, 4, 5, 6, 7, 8, 9, 10, 11] ⟨[(0, .slice x.a x.n x.c), (4, .bool false), (5, .bool true), (6, .string (B (printL xs))), (7, .int .i64 (k : Int)), (8, .int .i64 ((e : Int) + 1)), (9, .int .i64 ((b : Int) + 1)), (10, .int .i64 ((i : Int) + 1)), (11, .int .i64 (i : Int))], []⟩ [] (by kernel_rfl) (by kernel_rfl) ?_
              refine RV_end ?_
              refine KE_block ?_
              refine KE_then ?_
              refine VC_region 3 rfl ?_
              refine RV_go (hs := [0, 0]) (c' := 1) (k' := 2) TOK [0, 4, 5, 6, 7, 8, 9, 10, 11, 38] ⟨[(0, .slice x.a x.n x.c), (4, .bool false), (5, .bool true), (6, .string (B (printL xs))), (7, .int .i64 (k : Int)), (8, .int .i64 ((e : Int) + 1)), (9, .int .i64 ((b : Int) + 1)), (10, .int .i64 ((i : Int) + 1)), (11, .int .i64 (i : Int)), (38, .int .i64 (IntKind.i64.wrap ((i : Int) + 1)))], []⟩ [] (by kernel_rfl) (by kernel_rfl) ?_
              refine RV_st ⟨[(0, .slice x.a x.n x.c), (4, .bool false), (5, .bool true), (6, .string (B (printL xs))), (7, .int .i64 (k : Int)), (8, .int .i64 ((e : Int) + 1)), (9, .int .i64 ((b : Int) + 1)), (10, .int .i64 ((i : Int) + 1)), (11, .int .i64 (i : Int)), (38, .int .i64 ((i : Int) + 1))], []⟩ (by rw [wrap_id (x := (i : Int) + 1) (by unfold InR; omega)]) ?_
              refine RV_go (hs := [0]) (c' := 0) (k' := 3) TOK [0, 4, 5, 6, 7, 8, 9, 10, 11] ⟨[(0, .slice x.a x.n x.c), (4, .bool false), (5, .bool true), (6, .string (B (printL xs))), (7, .int .i64 (k : Int)), (8, .int .i64 ((e : Int) + 1)), (9, .int .i64 ((b : Int) + 1)), (10, .int .i64 ((i : Int) + 1)), (11, .int .i64 ((i : Int) + 1))], []⟩ [] (by kernel_rfl) (by kernel_rfl) ?_
              refine RV_end ?_
              refine KE_rnd ((printL xs).length - (i + 1)) [0, 4, 5, 6, 7, 8, 9, 10, 11] [] 0 ⟨[(0, .slice x.a x.n x.c), (4, .bool false), (5, .bool true), (6, .string (B (printL xs))), (7, .int .i64 (k : Int)), (8, .int .i64 (((e + 1) : Nat) : Int)), (9, .int .i64 (((b + 1) : Nat) : Int)), (10, .int .i64 (((i + 1) : Nat) : Int)), (11, .int .i64 (((i + 1) : Nat) : Int))], []⟩ (by kernel_rfl) (by kernel_rfl) (by omega) ⟨(i + 1), (e + 1), (b + 1), (i + 1), (by omega), (by omega), (by first | (rw [he]; exact cnt_yes (by omega) (by assumption)) | (rw [he]; exact cnt_no (by omega) (by assumption))), (by first | (rw [hb]; exact cnt_yes (by omega) (by assumption)) | (rw [hb]; exact cnt_no (by omega) (by assumption))), (by first | (exact at_hit hw_xs (by omega) (by omega) (by assumption) he (by assumption)) | (rw [ha]; exact at_miss hw_xs (by omega) (by omega) he (by first | exact .inl (by assumption) | exact .inr ⟨by assumption, by assumption⟩))), rfl, hx17, rfl⟩
            · skip
              replace h21 := ne_of_beq_false h21
              refine VC_skip ?_
              refine KE_block ?_
              refine KE_then ?_
              refine VC_region 3 rfl ?_
              refine RV_go (hs := [0, 0]) (c' := 1) (k' := 2) TOK [0, 4, 5, 6, 7, 8, 9, 10, 11, 38] ⟨[(0, .slice x.a x.n x.c), (4, .bool false), (5, .bool true), (6, .string (B (printL xs))), (7, .int .i64 (k : Int)), (8, .int .i64 ((e : Int) + 1)), (9, .int .i64 ((b : Int) + 1)), (10, .int .i64 (p : Int)), (11, .int .i64 (i : Int)), (38, .int .i64 (IntKind.i64.wrap ((i : Int) + 1)))], []⟩ [] (by kernel_rfl) (by kernel_rfl) ?_
              refine RV_st ⟨[(0, .slice x.a x.n x.c), (4, .bool false), (5, .bool true), (6, .string (B (printL xs))), (7, .int .i64 (k : Int)), (8, .int .i64 ((e : Int) + 1)), (9, .int .i64 ((b : Int) + 1)), (10, .int .i64 (p : Int)), (11, .int .i64 (i : Int)), (38, .int .i64 ((i : Int) + 1))], []⟩ (by rw [wrap_id (x := (i : Int) + 1) (by unfold InR; omega)]) ?_
              refine RV_go (hs := [0]) (c' := 0) (k' := 3) TOK [0, 4, 5, 6, 7, 8, 9, 10, 11] ⟨[(0, .slice x.a x.n x.c), (4, .bool false), (5, .bool true), (6, .string (B (printL xs))), (7, .int .i64 (k : Int)), (8, .int .i64 ((e : Int) + 1)), (9, .int .i64 ((b : Int) + 1)), (10, .int .i64 (p : Int)), (11, .int .i64 ((i : Int) + 1))], []⟩ [] (by kernel_rfl) (by kernel_rfl) ?_
              refine RV_end ?_
              refine KE_rnd ((printL xs).length - (i + 1)) [0, 4, 5, 6, 7, 8, 9, 10, 11] [] 0 ⟨[(0, .slice x.a x.n x.c), (4, .bool false), (5, .bool true), (6, .string (B (printL xs))), (7, .int .i64 (k : Int)), (8, .int .i64 (((e + 1) : Nat) : Int)), (9, .int .i64 (((b + 1) : Nat) : Int)), (10, .int .i64 (p : Int)), (11, .int .i64 (((i + 1) : Nat) : Int))], []⟩ (by kernel_rfl) (by kernel_rfl) (by omega) ⟨(i + 1), (e + 1), (b + 1), p, (by omega), (by omega), (by first | (rw [he]; exact cnt_yes (by omega) (by assumption)) | (rw [he]; exact cnt_no (by omega) (by assumption))), (by first | (rw [hb]; exact cnt_yes (by omega) (by assumption)) | (rw [hb]; exact cnt_no (by omega) (by assumption))), (by first | (exact at_hit hw_xs (by omega) (by omega) (by assumption) he (by assumption)) | (rw [ha]; exact at_miss hw_xs (by omega) (by omega) he (by first | exact .inl (by assumption) | exact .inr ⟨by assumption, by assumption⟩))), rfl, hx17, rfl⟩
          · skip
            replace h20 := ne_of_beq_false h20
            refine VC_skip ?_
            refine KE_block ?_
            refine KE_then ?_
            refine VC_region 3 rfl ?_
            refine RV_go (hs := [0, 0]) (c' := 1) (k' := 2) TOK [0, 4, 5, 6, 7, 8, 9, 10, 11, 38] ⟨[(0, .slice x.a x.n x.c), (4, .bool false), (5, .bool true), (6, .string (B (printL xs))), (7, .int .i64 (k : Int)), (8, .int .i64 (e : Int)), (9, .int .i64 ((b : Int) + 1)), (10, .int .i64 (p : Int)), (11, .int .i64 (i : Int)), (38, .int .i64 (IntKind.i64.wrap ((i : Int) + 1)))], []⟩ [] (by kernel_rfl) (by kernel_rfl) ?_
            refine RV_st ⟨[(0, .slice x.a x.n x.c), (4, .bool false), (5, .bool true), (6, .string (B (printL xs))), (7, .int .i64 (k : Int)), (8, .int .i64 (e : Int)), (9, .int .i64 ((b : Int) + 1)), (10, .int .i64 (p : Int)), (11, .int .i64 (i : Int)), (38, .int .i64 ((i : Int) + 1))], []⟩ (by rw [wrap_id (x := (i : Int) + 1) (by unfold InR; omega)]) ?_
            refine RV_go (hs := [0]) (c' := 0) (k' := 3) TOK [0, 4, 5, 6, 7, 8, 9, 10, 11] ⟨[(0, .slice x.a x.n x.c), (4, .bool false), (5, .bool true), (6, .string (B (printL xs))), (7, .int .i64 (k : Int)), (8, .int .i64 (e : Int)), (9, .int .i64 ((b : Int) + 1)), (10, .int .i64 (p : Int)), (11, .int .i64 ((i : Int) + 1))], []⟩ [] (by kernel_rfl) (by kernel_rfl) ?_
            refine RV_end ?_
            refine KE_rnd ((printL xs).length - (i + 1)) [0, 4, 5, 6, 7, 8, 9, 10, 11] [] 0 ⟨[(0, .slice x.a x.n x.c), (4, .bool false), (5, .bool true), (6, .string (B (printL xs))), (7, .int .i64 (k : Int)), (8, .int .i64 (e : Int)), (9, .int .i64 (((b + 1) : Nat) : Int)), (10, .int .i64 (p : Int)), (11, .int .i64 (((i + 1) : Nat) : Int))], []⟩ (by kernel_rfl) (by kernel_rfl) (by omega) ⟨(i + 1), e, (b + 1), p, (by omega), (by omega), (by first | (rw [he]; exact cnt_yes (by omega) (by assumption)) | (rw [he]; exact cnt_no (by omega) (by assumption))), (by first | (rw [hb]; exact cnt_yes (by omega) (by assumption)) | (rw [hb]; exact cnt_no (by omega) (by assumption))), (by first | (exact at_hit hw_xs (by omega) (by omega) (by assumption) he (by assumption)) | (rw [ha]; exact at_miss hw_xs (by omega) (by omega) he (by first | exact .inl (by assumption) | exact .inr ⟨by assumption, by assumption⟩))), rfl, hx17, rfl⟩
        · skip
          replace h19 := ne_of_beq_false h19
          refine VC_skip ?_
          refine KE_then ?_
          refine VC_seq ?_
          refine VC_region 4 rfl ?_
          refine RV_run (hs := [0, 0, 0, 0]) (c' := 0) (k' := 4) TOK [] [0, 4, 5, 6, 7, 8, 9, 10, 11, 48] ⟨[(0, .slice x.a x.n x.c), (4, .bool false), (5, .bool true), (6, .string (B (printL xs))), (7, .int .i64 (k : Int)), (8, .int .i64 (e : Int)), (9, .int .i64 (b : Int)), (10, .int .i64 (p : Int)), (11, .int .i64 (i : Int)), (48, .bool ((((printL xs).getD i 0).toNat : Int) == 10))], []⟩ [] [.lt (i : Int) (printL xs).length] (by kernel_rfl) (by kernel_rfl) ROS_nil (by simp only [Conds, Cond.holds, and_true]; omega) ?_
          refine RV_end ?_
          refine KE_then ?_
          refine VC_cond ((((printL xs).getD i 0).toNat : Int) == 10) (by kernel_rfl) (fun h22 => ?_) (fun h22 => ?_)
          · skip
            replace h22 := eq_of_beq h22
            refine VC_seq ?_
            refine VC_region 3 rfl ?_
            refine RV_go (hs := [0, 0]) (c' := 1) (k' := 2) TOK [0, 4, 5, 6, 7, 8, 9, 10, 11, 50] ⟨[(0, .slice x.a x.n x.c), (4, .bool false), (5, .bool true), (6, .string (B (printL xs))), (7, .int .i64 (k : Int)), (8, .int .i64 (e : Int)), (9, .int .i64 (b : Int)), (10, .int .i64 (p : Int)), (11, .int .i64 (i : Int)), (50, .int .i64 (IntKind.i64.wrap ((e : Int) + 1)))], []⟩ [] (by kernel_rfl) (by kernel_rfl) ?_
            refine RV_st ⟨[(0, .slice x.a x.n x.c), (4, .bool false), (5, .bool true), (6, .string (B (printL xs))), (7, .int .i64 (k : Int)), (8, .int .i64 (e : Int)), (9, .int .i64 (b : Int)), (10, .int .i64 (p : Int)), (11, .int .i64 (i : Int)), (50, .int .i64 ((e : Int) + 1))], []⟩ (by rw [wrap_id (x := (e : Int) + 1) (by unfold InR; omega)]) ?_
            refine RV_go (hs := [0]) (c' := 0) (k' := 3) TOK [0, 4, 5, 6, 7, 8, 9, 10, 11] ⟨[(0, .slice x.a x.n x.c), (4, .bool false), (5, .bool true), (6, .string (B (printL xs))), (7, .int .i64 (k : Int)), (8, .int .i64 ((e : Int) + 1)), (9, .int .i64 (b : Int)), (10, .int .i64 (p : Int)), (11, .int .i64 (i : Int))], []⟩ [] (by kernel_rfl) (by kernel_rfl) ?_
            refine RV_end ?_
            refine KE_then ?_
            refine VC_go (hs := [0, 0, 0]) TOK [0, 4, 5, 6, 7, 8, 9, 10, 11, 53] ⟨[(0, .slice x.a x.n x.c), (4, .bool false), (5, .bool true), (6, .string (B (printL xs))), (7, .int .i64 (k : Int)), (8, .int .i64 ((e : Int) + 1)), (9, .int .i64 (b : Int)), (10, .int .i64 (p : Int)), (11, .int .i64 (i : Int)), (53, .bool (((e : Int) + 1) == (k : Int)))], []⟩ [] (by kernel_rfl) (by kernel_rfl) ?_
            refine VC_cond (((e : Int) + 1) == (k : Int)) (by kernel_rfl) (fun h23 => ?_) (fun h23 => ?_)
            · skip
              replace h23 := eq_of_beq h23
              refine VC_region 3 rfl ?_
              refine RV_go (hs := [0, 0]) (c' := 1) (k' := 2) TOK [0, 4, 5, 6, 7, 8, 9, 10, 11, 55] ⟨[(0, .slice x.a x.n x.c), (4, .bool false), (5, .bool true), (6, .string (B (printL xs))), (7, .int .i64 (k : Int)), (8, .int .i64 ((e : Int) + 1)), (9, .int .i64 (b : Int)), (10, .int .i64 (p : Int)), (11, .int .i64 (i : Int)), (55, .int .i64 (IntKind.i64.wrap ((i : Int) + 1)))], []⟩ [] (by kernel_rfl) (by kernel_rfl) ?_
              refine RV_st ⟨[(0, .slice x.a x.n x.c), (4, .bool false), (5, .bool true), (6, .string (B (printL xs))), (7, .int .i64 (k : Int)), (8, .int .i64 ((e : Int) + 1)), (9, .int .i64 (b : Int)), (10, .int .i64 (p : Int)), (11, .int .i64 (i : Int)), (55, .int .i64 ((i : Int) + 1))], []⟩ (by rw [wrap_id (x := (i : Int) + 1) (by unfold InR; omega)]) ?_
              refine RV_go (hs := [0]) (c' := 0) (k' := 3) TOK [0, 4, 5, 6, 7, 8, 9, 10, 11] ⟨[(0, .slice x.a x.n x.c), (4, .bool false), (5, .bool true), (6, .string (B (printL xs))), (7, .int .i64 (k : Int)), (8, .int .i64 ((e : Int) + 1)), (9, .int .i64 (b : Int)), (10, .int .i64 ((i : Int) + 1)), (11, .int .i64 (i : Int))], []⟩ [] (by kernel_rfl) (by kernel_rfl) ?_
              refine RV_end ?_
              refine KE_block ?_
              refine KE_then ?_
              refine VC_region 3 rfl ?_
              refine RV_go (hs := [0, 0]) (c' := 1) (k' := 2) TOK [0, 4, 5, 6, 7, 8, 9, 10, 11, 38] ⟨[(0, .slice x.a x.n x.c), (4, .bool false), (5, .bool true), (6, .string (B (printL xs))), (7, .int .i64 (k : Int)), (8, .int .i64 ((e : Int) + 1)), (9, .int .i64 (b : Int)), (10, .int .i64 ((i : Int) + 1)), (11, .int .i64 (i : Int)), (38, .int .i64 (IntKind.i64.wrap ((i : Int) + 1)))], []⟩ [] (by kernel_rfl) (by kernel_rfl) ?_
              refine RV_st ⟨[(0, .slice x.a x.n x.c), (4, .bool false), (5, .bool true), (6, .string (B (printL xs))), (7, .int .i64 (k : Int)), (8, .int .i64 ((e : Int) + 1)), (9, .int .i64 (b : Int)), (10, .int .i64 ((i : Int) + 1)), (11, .int .i64 (i : Int)), (38, .int .i64 ((i : Int) + 1))], []⟩ (by rw [wrap_id (x := (i : Int) + 1) (by unfold InR; omega)]) ?_
              refine RV_go (hs := [0]) (c' := 0) (k' := 3) TOK [0, 4, 5, 6, 7, 8, 9, 10, 11] ⟨[(0, .slice x.a x.n x.c), (4, .bool false), (5, .bool true), (6, .string (B (printL xs))), (7, .int .i64 (k : Int)), (8, .int .i64 ((e : Int) + 1)), (9, .int .i64 (b : Int)), (10, .int .i64 ((i : Int) + 1)), (11, .int .i64 ((i : Int) + 1))], []⟩ [] (by kernel_rfl) (by kernel_rfl) ?_
              refine RV_end ?_
              refine KE_rnd ((printL xs).length - (i + 1)) [0, 4, 5, 6, 7, 8, 9, 10, 11] [] 0 ⟨[(0, .slice x.a x.n x.c), (4, .bool false), (5, .bool true), (6, .string (B (printL xs))), (7, .int .i64 (k : Int)), (8, .int .i64 (((e + 1) : Nat) : Int)), (9, .int .i64 (b : Int)), (10, .int .i64 (((i + 1) : Nat) : Int)), (11, .int .i64 (((i + 1) : Nat) : Int))], []⟩ (by kernel_rfl) (by kernel_rfl) (by omega) ⟨(i + 1), (e + 1), b, (i + 1), (by omega), (by omega), (by first | (rw [he]; exact cnt_yes (by omega) (by assumption)) | (rw [he]; exact cnt_no (by omega) (by assumption))), (by first | (rw [hb]; exact cnt_yes (by omega) (by assumption)) | (rw [hb]; exact cnt_no (by omega) (by assumption))), (by first | (exact at_hit hw_xs (by omega) (by omega) (by assumption) he (by assumption)) | (rw [ha]; exact at_miss hw_xs (by omega) (by omega) he (by first | exact .inl (by assumption) | exact .inr ⟨by assumption, by assumption⟩))), rfl, hx17, rfl⟩
            · skip
              replace h23 := ne_of_beq_false h23
              refine VC_skip ?_
              refine KE_block ?_
              refine KE_then ?_
              refine VC_region 3 rfl ?_
              refine RV_go (hs := [0, 0]) (c' := 1) (k' := 2) TOK [0, 4, 5, 6, 7, 8, 9, 10, 11, 38] ⟨[(0, .slice x.a x.n x.c), (4, .bool false), (5, .bool true), (6, .string (B (printL xs))), (7, .int .i64 (k : Int)), (8, .int .i64 ((e : Int) + 1)), (9, .int .i64 (b : Int)), (10, .int .i64 (p : Int)), (11, .int .i64 (i : Int)), (38, .int .i64 (IntKind.i64.wrap ((i : Int) + 1)))], []⟩ [] (by kernel_rfl) (by kernel_rfl) ?_
              refine RV_st ⟨[(0, .slice x.a x.n x.c), (4, .bool false), (5, .bool true), (6, .string (B (printL xs))), (7, .int .i64 (k : Int)), (8, .int .i64 ((e : Int) + 1)), (9, .int .i64 (b : Int)), (10, .int .i64 (p : Int)), (11, .int .i64 (i : Int)), (38, .int .i64 ((i : Int) + 1))], []⟩ (by rw [wrap_id (x := (i : Int) + 1) (by unfold InR; omega)]) ?_
              refine RV_go (hs := [0]) (c' := 0) (k' := 3) TOK [0, 4, 5, 6, 7, 8, 9, 10, 11] ⟨[(0, .slice x.a x.n x.c), (4, .bool false), (5, .bool true), (6, .string (B (printL xs))), (7, .int .i64 (k : Int)), (8, .int .i64 ((e : Int) + 1)), (9, .int .i64 (b : Int)), (10, .int .i64 (p : Int)), (11, .int .i64 ((i : Int) + 1))], []⟩ [] (by kernel_rfl) (by kernel_rfl) ?_
              refine RV_end ?_
              refine KE_rnd ((printL xs).length - (i + 1)) [0, 4, 5, 6, 7, 8, 9, 10, 11] [] 0 ⟨[(0, .slice x.a x.n x.c), (4, .bool false), (5, .bool true), (6, .string (B (printL xs))), (7, .int .i64 (k : Int)), (8, .int .i64 (((e + 1) : Nat) : Int)), (9, .int .i64 (b : Int)), (10, .int .i64 (p : Int)), (11, .int .i64 (((i + 1) : Nat) : Int))], []⟩ (by kernel_rfl) (by kernel_rfl) (by omega) ⟨(i + 1), (e + 1), b, p, (by omega), (by omega), (by first | (rw [he]; exact cnt_yes (by omega) (by assumption)) | (rw [he]; exact cnt_no (by omega) (by assumption))), (by first | (rw [hb]; exact cnt_yes (by omega) (by assumption)) | (rw [hb]; exact cnt_no (by omega) (by assumption))), (by first | (exact at_hit hw_xs (by omega) (by omega) (by assumption) he (by assumption)) | (rw [ha]; exact at_miss hw_xs (by omega) (by omega) he (by first | exact .inl (by assumption) | exact .inr ⟨by assumption, by assumption⟩))), rfl, hx17, rfl⟩
          · skip
            replace h22 := ne_of_beq_false h22
            refine VC_skip ?_
            refine KE_block ?_
            refine KE_then ?_
            refine VC_region 3 rfl ?_
            refine RV_go (hs := [0, 0]) (c' := 1) (k' := 2) TOK [0, 4, 5, 6, 7, 8, 9, 10, 11, 38] ⟨[(0, .slice x.a x.n x.c), (4, .bool false), (5, .bool true), (6, .string (B (printL xs))), (7, .int .i64 (k : Int)), (8, .int .i64 (e : Int)), (9, .int .i64 (b : Int)), (10, .int .i64 (p : Int)), (11, .int .i64 (i : Int)), (38, .int .i64 (IntKind.i64.wrap ((i : Int) + 1)))], []⟩ [] (by kernel_rfl) (by kernel_rfl) ?_
            refine RV_st ⟨[(0, .slice x.a x.n x.c), (4, .bool false), (5, .bool true), (6, .string (B (printL xs))), (7, .int .i64 (k : Int)), (8, .int .i64 (e : Int)), (9, .int .i64 (b : Int)), (10, .int .i64 (p : Int)), (11, .int .i64 (i : Int)), (38, .int .i64 ((i : Int) + 1))], []⟩ (by rw [wrap_id (x := (i : Int) + 1) (by unfold InR; omega)]) ?_
            refine RV_go (hs := [0]) (c' := 0) (k' := 3) TOK [0, 4, 5, 6, 7, 8, 9, 10, 11] ⟨[(0, .slice x.a x.n x.c), (4, .bool false), (5, .bool true), (6, .string (B (printL xs))), (7, .int .i64 (k : Int)), (8, .int .i64 (e : Int)), (9, .int .i64 (b : Int)), (10, .int .i64 (p : Int)), (11, .int .i64 ((i : Int) + 1))], []⟩ [] (by kernel_rfl) (by kernel_rfl) ?_
            refine RV_end ?_
            refine KE_rnd ((printL xs).length - (i + 1)) [0, 4, 5, 6, 7, 8, 9, 10, 11] [] 0 ⟨[(0, .slice x.a x.n x.c), (4, .bool false), (5, .bool true), (6, .string (B (printL xs))), (7, .int .i64 (k : Int)), (8, .int .i64 (e : Int)), (9, .int .i64 (b : Int)), (10, .int .i64 (p : Int)), (11, .int .i64 (((i + 1) : Nat) : Int))], []⟩ (by kernel_rfl) (by kernel_rfl) (by omega) ⟨(i + 1), e, b, p, (by omega), (by omega), (by first | (rw [he]; exact cnt_yes (by omega) (by assumption)) | (rw [he]; exact cnt_no (by omega) (by assumption))), (by first | (rw [hb]; exact cnt_yes (by omega) (by assumption)) | (rw [hb]; exact cnt_no (by omega) (by assumption))), (by first | (exact at_hit hw_xs (by omega) (by omega) (by assumption) he (by assumption)) | (rw [ha]; exact at_miss hw_xs (by omega) (by omega) he (by first | exact .inl (by assumption) | exact .inr ⟨by assumption, by assumption⟩))), rfl, hx17, rfl⟩
      · skip
        replace h18 := of_decide_eq_false h18
        refine VC_exit ?_
        refine KE_exit_then ?_
        refine KE_exit_then ?_
        refine KE_exit_here ?_
        refine KE_then ?_
        refine VC_seq ?_
        have hatE := at_end hw_xs (k := k) (show k ≤ xs.length from by omega) (show (printL xs).length ≤ i from by omega)
        rw [List.take_of_length_le (show (printL xs).length ≤ i from by omega)] at he hb
        rw [count_print (fun d h => count_lf h) hw_xs] at he
        rw [count_print (fun d h => count_blank h) hw_xs] at hb
        have hps : p = (printL (xs.take k)).length := ha.trans hatE
        have hpt := congrArg List.length (take_print xs k)
        rw [List.length_take] at hpt
        refine VC_region 11 rfl ?_
        refine RV_run (hs := [0, 0, 0]) (c' := 8) (k' := 3) TOK [] [0, 4, 5, 7, 8, 9, 10, 59] ⟨[(0, .slice x.a x.n x.c), (4, .bool false), (5, .bool true), (7, .int .i64 (k : Int)), (8, .int .i64 (e : Int)), (9, .int .i64 (b : Int)), (10, .int .i64 (p : Int)), (59, .string ((B (printL xs)).extract 0 p))], []⟩ [] [.le (p : Int) (printL xs).length] (by kernel_rfl) (by kernel_rfl) ROS_nil (by simp only [Conds, Cond.holds, and_true]; omega) ?_
        refine RV_st ⟨[(0, .slice x.a x.n x.c), (4, .bool false), (5, .bool true), (7, .int .i64 (k : Int)), (8, .int .i64 (e : Int)), (9, .int .i64 (b : Int)), (10, .int .i64 (p : Int)), (59, .string (B ((printL xs).take p)))], []⟩ (by rw [B_ext0 (printL xs) p]) ?_
        refine RV_call (c := 7) (f := 9) (vs := [.string (B ((printL xs).take p))]) (dst := (some 60)) (by kernel_rfl) E9 (fun wa hxe hp => c9 ((printL xs).take p) _ wa hp (hG.ext hxe) (by first | decide | (simp only [List.length_append] <;> omega) | omega | (simp only [List.length_take]; omega))) ?_
        rintro S30 w31 v32 _ hx33 (⟨cs24, x25, hs26, rfl, hx27⟩ | ⟨cs24, r28, hs26, hr29, rfl⟩)
        · skip
          have hG := hG.ext hx33
          have hx := hx.ext hx33
          obtain rfl := (Split.one (sp_take hw_xs hps) hs26).1
          have hx27n := hx27.n
          refine RV_go (hs := [0, 0, 0, 0, 0, 0, 0]) (c' := 0) (k' := 11) TOK [0, 4, 5, 7, 8, 9, 10, 12, 13, 14] ⟨[(0, .slice x.a x.n x.c), (4, .bool false), (5, .bool true), (7, .int .i64 (k : Int)), (8, .int .i64 (e : Int)), (9, .int .i64 (b : Int)), (10, .int .i64 (p : Int)), (12, .slice x25.a x25.n x25.c), (13, .int .i64 (((printL xs).take p).length : Int)), (14, .int .i64 0)], []⟩ [] (by kernel_rfl) (by kernel_rfl) ?_
          refine RV_end ?_
          refine KE_then ?_
          refine VC_seq ?_
          refine VC_region 31 rfl ?_
          refine RV_go (hs := [0, 0, 0, 0, 0, 0]) (c' := 25) (k' := 6) TOK [0, 4, 7, 9, 10, 12, 13, 14, 65, 69] ⟨[(0, .slice x.a x.n x.c), (4, .bool false), (7, .int .i64 (k : Int)), (9, .int .i64 (b : Int)), (10, .int .i64 (p : Int)), (12, .slice x25.a x25.n x25.c), (13, .int .i64 (((printL xs).take p).length : Int)), (14, .int .i64 0), (65, .bool true), (69, .bool ((e : Int) == (x.n : Int)))], []⟩ [] (by kernel_rfl) (by kernel_rfl) ?_
          refine RV_st ⟨[(0, .slice x.a x.n x.c), (4, .bool false), (7, .int .i64 (k : Int)), (9, .int .i64 (b : Int)), (10, .int .i64 (p : Int)), (12, .slice x25.a x25.n x25.c), (13, .int .i64 (((printL xs).take p).length : Int)), (14, .int .i64 0), (65, .bool true), (69, .bool true)], []⟩ (by rw [(show ((e : Int) == (x.n : Int)) = true from by rw [beq_iff_eq]; omega)]) ?_
          refine RV_go (hs := [0, 0, 0, 0, 0, 0]) (c' := 19) (k' := 12) TOK [0, 4, 7, 10, 12, 13, 14, 71, 72, 75] ⟨[(0, .slice x.a x.n x.c), (4, .bool false), (7, .int .i64 (k : Int)), (10, .int .i64 (p : Int)), (12, .slice x25.a x25.n x25.c), (13, .int .i64 (((printL xs).take p).length : Int)), (14, .int .i64 0), (71, .bool true), (72, .int .i64 (b : Int)), (75, .int .i64 (IntKind.i64.wrap (2 * (x.n : Int))))], []⟩ [] (by kernel_rfl) (by kernel_rfl) ?_
          refine RV_st ⟨[(0, .slice x.a x.n x.c), (4, .bool false), (7, .int .i64 (k : Int)), (10, .int .i64 (p : Int)), (12, .slice x25.a x25.n x25.c), (13, .int .i64 (((printL xs).take p).length : Int)), (14, .int .i64 0), (71, .bool true), (72, .int .i64 (b : Int)), (75, .int .i64 (2 * (x.n : Int)))], []⟩ (by rw [wrap_id (x := 2 * (x.n : Int)) (by unfold InR; omega)]) ?_
          refine RV_go (hs := [0]) (c' := 18) (k' := 13) TOK [0, 4, 7, 10, 12, 13, 14, 71, 76] ⟨[(0, .slice x.a x.n x.c), (4, .bool false), (7, .int .i64 (k : Int)), (10, .int .i64 (p : Int)), (12, .slice x25.a x25.n x25.c), (13, .int .i64 (((printL xs).take p).length : Int)), (14, .int .i64 0), (71, .bool true), (76, .bool ((b : Int) == (2 * (x.n : Int))))], []⟩ [] (by kernel_rfl) (by kernel_rfl) ?_
          refine RV_st ⟨[(0, .slice x.a x.n x.c), (4, .bool false), (7, .int .i64 (k : Int)), (10, .int .i64 (p : Int)), (12, .slice x25.a x25.n x25.c), (13, .int .i64 (((printL xs).take p).length : Int)), (14, .int .i64 0), (71, .bool true), (76, .bool true)], []⟩ (by rw [(show ((b : Int) == (2 * (x.n : Int))) = true from by rw [beq_iff_eq]; omega)]) ?_
          refine RV_go (hs := [0, 0, 0, 0]) (c' := 14) (k' := 17) TOK [0, 4, 7, 10, 12, 13, 78, 80] ⟨[(0, .slice x.a x.n x.c), (4, .bool false), (7, .int .i64 (k : Int)), (10, .int .i64 (p : Int)), (12, .slice x25.a x25.n x25.c), (13, .int .i64 (((printL xs).take p).length : Int)), (78, .bool true), (80, .bool (0 == 0))], []⟩ [] (by kernel_rfl) (by kernel_rfl) ?_
          refine RV_st ⟨[(0, .slice x.a x.n x.c), (4, .bool false), (7, .int .i64 (k : Int)), (10, .int .i64 (p : Int)), (12, .slice x25.a x25.n x25.c), (13, .int .i64 (((printL xs).take p).length : Int)), (78, .bool true), (80, .bool true)], []⟩ (by rw [(show (0 == 0) = true from by decide)]) ?_
          refine RV_go (hs := [0, 0, 0, 0, 0]) (c' := 9) (k' := 22) TOK [0, 4, 7, 12, 82, 85] ⟨[(0, .slice x.a x.n x.c), (4, .bool false), (7, .int .i64 (k : Int)), (12, .slice x25.a x25.n x25.c), (82, .bool true), (85, .bool ((((printL xs).take p).length : Int) == (p : Int)))], []⟩ [] (by kernel_rfl) (by kernel_rfl) ?_
          refine RV_st ⟨[(0, .slice x.a x.n x.c), (4, .bool false), (7, .int .i64 (k : Int)), (12, .slice x25.a x25.n x25.c), (82, .bool true), (85, .bool true)], []⟩ (by rw [(show ((((printL xs).take p).length : Int) == (p : Int)) = true from by rw [beq_iff_eq]; simp only [List.length_take]; omega)]) ?_
          refine RV_run (hs := [0, 0, 0, 0, 0, 0]) (c' := 3) (k' := 28) TOK [] [4, 87, 88, 91] ⟨[(4, .bool false), (87, .bool true), (88, .slice x25.a x25.n x25.c), (91, .slice x.a k x.c)], []⟩ [] [.le (k : Int) x.c] (by kernel_rfl) (by kernel_rfl) ROS_nil (by simp only [Conds, Cond.holds, and_true]; omega) ?_
          refine RV_call (c := 2) (f := 11) (vs := [.slice x25.a x25.n x25.c, .slice x.a k x.c]) (dst := (some 92)) (by kernel_rfl) E11 (fun wa hxe hp => f11 x25 ⟨x.a, k, x.c⟩ (xs.take k) (xs.take k) _ wa hp (hx27.ext hxe) ((hx.ext hxe).take k (by omega)) (by first | omega | decide | (simp only [List.length_append, List.length_cons, List.length_nil]; omega) | (simp only [List.length_take]; omega))) ?_
          rintro S34 w35 v36 _ hx37 rfl
          have hG := hG.ext hx37
          have hx := hx.ext hx37
          have hx27 := hx27.ext hx37
          refine RV_go (hs := [0]) (c' := 1) (k' := 30) TOK [4, 93] ⟨[(4, .bool false), (93, .bool (decide ((xs.take k) = (xs.take k))))], []⟩ [] (by kernel_rfl) (by kernel_rfl) ?_
          refine RV_st ⟨[(4, .bool false), (93, .bool true)], []⟩ (by rw [(show (decide ((xs.take k) = (xs.take k))) = true from by simp)]) ?_
          refine RV_go (hs := [0]) (c' := 0) (k' := 31) TOK [4] ⟨[(4, .bool true)], []⟩ [] (by kernel_rfl) (by kernel_rfl) ?_
          refine RV_end ?_
          refine KE_then ?_
          refine VC_ret (ls := []) TOK [] 0 false [] [.bool true] [] ([]) rfl (by kernel_rfl) (by kernel_rfl) (fun w9 hx9 => ?_)
          show (.bool true : Value) = .bool true
          rfl
        · skip
          have hG := hG.ext hx33
          have hx := hx.ext hx33
          exact absurd (Split.one (sp_take hw_xs hps) hs26).2.symm hr29

end Go.YtmfkmoecbnghhaaDoor
