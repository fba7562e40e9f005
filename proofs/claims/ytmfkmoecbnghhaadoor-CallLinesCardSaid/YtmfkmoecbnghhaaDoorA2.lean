/- Contracts of functions, over the symbolic executor: each comes to what its theorem says. Written by gen.py, a program of this work. -/
import Derived.Test.YtmfkmoecbnghhaaDoorA1
import Derived.Lib.ItoaNum
import Derived.Lib.AtoiAll
namespace Go.YtmfkmoecbnghhaaDoor
open Go Eng Go.Proofs Law
set_option linter.unusedVariables false
set_option linter.unusedSimpArgs false

theorem InR_tdiv {m : Int} (h : InR m) : InR (Int.tdiv m 10) := by
  unfold InR at *
  have hd : (Int.tdiv m 10).natAbs = m.natAbs / 10 := by simp only [Int.natAbs_tdiv]; rfl
  omega
theorem fig_chr (m : Int) (h : InR m) : UInt8.ofNat (IntKind.u8.wrap (IntKind.i64.wrap (48 + (if IntKind.i64.wrap (0 - Int.tmod m 10) > Int.tmod m 10 then IntKind.i64.wrap (0 - Int.tmod m 10) else Int.tmod m 10)))).toNat = UInt8.ofNat (48 + m.natAbs % 10) := by
  have h1 : (Int.tmod m 10).natAbs = m.natAbs % 10 := by simp [Int.natAbs_tmod]
  have h2 : -10 < Int.tmod m 10 ∧ Int.tmod m 10 < 10 := by omega
  generalize Int.tmod m 10 = r at h1 h2
  congr 1
  have hw : IntKind.i64.wrap (0 - r) = 0 - r := wrap_id (by unfold InR; omega)
  rw [hw]
  have hm : (if 0 - r > r then 0 - r else r) = ((m.natAbs % 10 : Nat) : Int) := by split <;> omega
  rw [hm, wrap_id (by unfold InR; omega)]
  have : IntKind.u8.wrap (48 + ((m.natAbs % 10 : Nat) : Int)) = 48 + ((m.natAbs % 10 : Nat) : Int) := by
    rw [IntKind.wrap_u8]; omega
  rw [this]
  omega
def decTail (u : Nat) : List UInt8 := if u = 0 then [] else Lib.decDigits u
def FigJ (n m : Int) (s : List UInt8) : Prop := (s = [] ∧ m = n) ∨ (s ≠ [] ∧ decTail m.natAbs ++ s = Lib.decDigits n.natAbs)
theorem fig_step {n m : Int} {s : List UInt8} (h : FigJ n m s) (hc : m ≠ 0 ∨ s = []) : FigJ n (Int.tdiv m 10) (UInt8.ofNat (48 + m.natAbs % 10) :: s) := by
  refine .inr ⟨by simp, ?_⟩
  have hd : (Int.tdiv m 10).natAbs = m.natAbs / 10 := by simp only [Int.natAbs_tdiv]; rfl
  have key : decTail (m.natAbs / 10) ++ [UInt8.ofNat (48 + m.natAbs % 10)] = Lib.decDigits m.natAbs := by
    unfold decTail
    conv => rhs; rw [Lib.decDigits]
    by_cases h10 : m.natAbs < 10
    · rw [dif_pos h10, if_pos (by omega), Nat.mod_eq_of_lt h10]; rfl
    · rw [dif_neg h10, if_neg (by omega)]
  rw [hd]
  have e : decTail (m.natAbs / 10) ++ UInt8.ofNat (48 + m.natAbs % 10) :: s = Lib.decDigits m.natAbs ++ s := by rw [← key]; simp
  rw [e]
  rcases h with ⟨rfl, rfl⟩ | ⟨h1, h2⟩
  · simp
  · have hm : m.natAbs ≠ 0 := by rcases hc with hc | hc; omega; exact absurd hc h1
    rw [← h2, decTail, if_neg hm]
theorem fig_end {n m : Int} {s : List UInt8} (h : FigJ n m s) (h0 : m = 0) (h1 : s ≠ []) : s = Lib.decDigits n.natAbs := by
  rcases h with ⟨h, _⟩ | ⟨_, h2⟩
  · exact absurd h h1
  · subst h0; simpa [decTail] using h2
theorem decDigits_len {n : Nat} (h : n < 10000000000000000000) : (Lib.decDigits n).length ≤ 19 := by
  rw [Lib.decDigits_length]
  rcases Nat.lt_or_ge 19 (Lib.nDigits n) with h1 | h1
  · exfalso
    have : ∀ k u, k < Lib.nDigits u → 0 < k → 10 ^ k ≤ u := by
      intro k
      induction k with
      | zero => intro u _ h; omega
      | succ k ih =>
        intro u hu _
        by_cases h10 : u < 10
        · rw [Lib.nDigits_small h10] at hu; omega
        · rw [Lib.nDigits_big h10] at hu
          rw [Nat.pow_succ]
          rcases Nat.eq_zero_or_pos k with h0 | h0
          · subst h0; omega
          · have := ih (u / 10) (by omega) h0
            omega
    have := this 19 n h1 (by omega)
    omega
  · exact h1
theorem fig_len {n m : Int} {s : List UInt8} (h : FigJ n m s) (hn : InR n) : s.length ≤ 19 := by
  unfold InR at hn
  rcases h with ⟨rfl, _⟩ | ⟨_, h2⟩
  · simp
  · have := congrArg List.length h2
    have h3 := decDigits_len (n := n.natAbs) (by omega)
    rw [List.length_append] at this
    omega
theorem fig_less {m : Int} {s t : List UInt8} (hc : m ≠ 0 ∨ s = []) (ht : t ≠ []) : (Int.tdiv m 10).natAbs + (if t = [] then 1 else 0) < m.natAbs + (if s = [] then 1 else 0) := by
  have hd : (Int.tdiv m 10).natAbs = m.natAbs / 10 := by simp only [Int.natAbs_tdiv]; rfl
  rw [hd, if_neg ht]
  rcases hc with h | h
  · split <;> omega
  · rw [if_pos h]; omega
theorem fig_neg {n : Int} (h : n < 0) : [45] ++ Lib.decDigits n.natAbs = Lib.itoa n := by unfold Lib.itoa; rw [if_pos h]; rfl
theorem fig_pos {n : Int} (h : ¬ n < 0) : Lib.decDigits n.natAbs = Lib.itoa n := by unfold Lib.itoa; rw [if_neg h]; congr 1; omega

theorem f27 (n : Int) (S : Nat → Prop) (w : World) (hP : Pre S w []) (hn : InR n) :
    Calls Tryd.prog 27 #[.int .i64 n] w (Ret S w [] fun v_ ls_ S_ w_ => v_ = .string (B (Lib.itoa n))) := by
  refine Calls_of_VC (ls := []) ⟨[(0, .int .i64 n)], []⟩ Tryd.func27 rfl (by kernel_rfl) (by kernel_rfl) hP ?_
  refine VC_go (hs := [0]) TOK [0, 2] ⟨[(0, .int .i64 n), (2, .string (B ([] : List UInt8)))], []⟩ [] (by kernel_rfl) (by kernel_rfl) ?_
  refine VC_go (hs := [0]) TOK [0, 2, 3] ⟨[(0, .int .i64 n), (2, .string (B ([] : List UInt8))), (3, .string (B ([] : List UInt8)))], []⟩ [] (by kernel_rfl) (by kernel_rfl) ?_
  refine VC_go (hs := [0, 0]) TOK [0, 2, 3, 4] ⟨[(0, .int .i64 n), (2, .string (B ([] : List UInt8))), (3, .string (B ([] : List UInt8))), (4, .int .i64 n)], []⟩ [] (by kernel_rfl) (by kernel_rfl) ?_
  refine VC_seq ?_
  refine VC_block ?_
  refine VC_keep [0, 2, 3, 4] [] 0 ⟨[(0, .int .i64 n), (2, .string (B ([] : List UInt8))), (3, .string (B [])), (4, .int .i64 n)], []⟩ (by kernel_rfl) (by kernel_rfl) ?_
  refine VC_loop (J := fun m_ S' w' st_ => ∃ (m : Int) (s : List UInt8), (FigJ n m s) ∧ (InR m) ∧ m_ = m.natAbs + (if s = [] then 1 else 0) ∧ Ext S w S' w' ∧ st_ = ⟨[(0, .int .i64 n), (2, .string (B ([] : List UInt8))), (3, .string (B s)), (4, .int .i64 m)], []⟩) (n.natAbs + (if [] = [] then 1 else 0)) ⟨n, [], (by exact .inl ⟨rfl, rfl⟩), (by exact hn), rfl, Ext.refl _ _, rfl⟩ ?_
  rintro _ S1 w2 _ ⟨m, s, hJ, hmR, rfl, hx3, rfl⟩
  -- a round
  refine VC_seq ?_
  refine VC_seq ?_
  refine VC_region 6 rfl ?_
  refine RV_go (hs := [0, 0, 0]) (c' := 3) (k' := 3) TOK [0, 2, 3, 4, 8] ⟨[(0, .int .i64 n), (2, .string (B ([] : List UInt8))), (3, .string (B s)), (4, .int .i64 m), (8, .bool (m != 0))], []⟩ [] (by kernel_rfl) (by kernel_rfl) ?_
  refine RV_case (m != 0) (fun bb => ⟨[(0, .int .i64 n), (2, .string (B ([] : List UInt8))), (3, .string (B s)), (4, .int .i64 m), (8, .bool bb)], []⟩) (by kernel_rfl) (fun h4 => ?_) (fun h4 => ?_)
  · skip
    replace h4 := bne_iff_ne.1 h4
    refine RV_go (hs := [0, 0, 0]) (c' := 0) (k' := 6) TOK [0, 2, 3, 4, 11] ⟨[(0, .int .i64 n), (2, .string (B ([] : List UInt8))), (3, .string (B s)), (4, .int .i64 m), (11, .bool true)], []⟩ [] (by kernel_rfl) (by kernel_rfl) ?_
    refine RV_end ?_
    refine KE_then ?_
    refine VC_true (by kernel_rfl) ?_
    refine VC_skip ?_
    refine KE_then ?_
    refine VC_block ?_
    refine VC_seq ?_
    refine VC_region 13 rfl ?_
    refine RV_run (hs := [0, 0, 0, 0, 0]) (c' := 8) (k' := 5) TOK [] [0, 2, 3, 4, 13, 16] ⟨[(0, .int .i64 n), (2, .string (B ([] : List UInt8))), (3, .string (B s)), (4, .int .i64 m), (13, .int .i64 (Int.tmod m 10)), (16, .int .i64 (IntKind.i64.wrap (0 - (Int.tmod m 10))))], []⟩ [] [.ne0 10, .ne0 10] (by kernel_rfl) (by kernel_rfl) ROS_nil (by simp only [Conds, Cond.holds, and_true]; (have := fig_len hJ hn; (try simp only [List.length_cons, List.length_nil]); omega)) ?_
    refine RV_val (c := 7) maxV [] [0, 2, 3, 4, 17] ⟨[(0, .int .i64 n), (2, .string (B ([] : List UInt8))), (3, .string (B s)), (4, .int .i64 m), (17, .int .i64 (if IntKind.i64.wrap (0 - (Int.tmod m 10)) > Int.tmod m 10 then IntKind.i64.wrap (0 - (Int.tmod m 10)) else Int.tmod m 10))], []⟩ (by kernel_rfl) (fun o v a wa h hA _ => run_max h hA) ?_
    refine RV_go (hs := [0, 0]) (c' := 5) (k' := 8) TOK [0, 2, 3, 4, 19] ⟨[(0, .int .i64 n), (2, .string (B ([] : List UInt8))), (3, .string (B s)), (4, .int .i64 m), (19, .int .u8 (IntKind.u8.wrap (IntKind.i64.wrap (48 + (if IntKind.i64.wrap (0 - (Int.tmod m 10)) > Int.tmod m 10 then IntKind.i64.wrap (0 - (Int.tmod m 10)) else Int.tmod m 10)))))], []⟩ [] (by kernel_rfl) (by kernel_rfl) ?_
    refine RV_new (c := 4) TOK [0, 2, 3, 4, 20] (fun b5 => ⟨[(0, .int .i64 n), (2, .string (B ([] : List UInt8))), (3, .string (B s)), (4, .int .i64 m), (20, .slice (some ⟨b5, 0, none⟩) 1 1)], [⟨b5, 5, [.int .u8 (IntKind.u8.wrap (IntKind.i64.wrap (48 + (if IntKind.i64.wrap (0 - (Int.tmod m 10)) > Int.tmod m 10 then IntKind.i64.wrap (0 - (Int.tmod m 10)) else Int.tmod m 10))))]⟩]⟩) (fun _ => by kernel_rfl) (fun b5 => ?_)
    refine RV_val (c := 3) (chrV T [⟨b5, 5, [.int .u8 (IntKind.u8.wrap (IntKind.i64.wrap (48 + (if IntKind.i64.wrap (0 - (Int.tmod m 10)) > Int.tmod m 10 then IntKind.i64.wrap (0 - (Int.tmod m 10)) else Int.tmod m 10))))]⟩] 0) [b5] [0, 2, 3, 4, 21] ⟨[(0, .int .i64 n), (2, .string (B ([] : List UInt8))), (3, .string (B s)), (4, .int .i64 m), (21, .string (B [UInt8.ofNat (IntKind.u8.wrap (IntKind.i64.wrap (48 + (if IntKind.i64.wrap (0 - (Int.tmod m 10)) > Int.tmod m 10 then IntKind.i64.wrap (0 - (Int.tmod m 10)) else Int.tmod m 10)))).toNat]))], [⟨b5, 5, [.int .u8 (IntKind.u8.wrap (IntKind.i64.wrap (48 + (if IntKind.i64.wrap (0 - (Int.tmod m 10)) > Int.tmod m 10 then IntKind.i64.wrap (0 - (Int.tmod m 10)) else Int.tmod m 10))))]⟩]⟩ (by kernel_rfl) (fun o v a wa h hA hI => run_chr TOK h hA hI.own) ?_
    refine RV_go (hs := [0]) (c' := 2) (k' := 11) TOK [0, 2, 3, 4, 21, 22] ⟨[(0, .int .i64 n), (2, .string (B ([] : List UInt8))), (3, .string (B s)), (4, .int .i64 m), (21, .string (B [UInt8.ofNat (IntKind.u8.wrap (IntKind.i64.wrap (48 + (if IntKind.i64.wrap (0 - (Int.tmod m 10)) > Int.tmod m 10 then IntKind.i64.wrap (0 - (Int.tmod m 10)) else Int.tmod m 10)))).toNat])), (22, .string (B s))], [⟨b5, 5, [.int .u8 (IntKind.u8.wrap (IntKind.i64.wrap (48 + (if IntKind.i64.wrap (0 - (Int.tmod m 10)) > Int.tmod m 10 then IntKind.i64.wrap (0 - (Int.tmod m 10)) else Int.tmod m 10))))]⟩]⟩ [] (by kernel_rfl) (by kernel_rfl) ?_
    refine RV_st ⟨[(0, .int .i64 n), (2, .string (B ([] : List UInt8))), (3, .string (B s)), (4, .int .i64 m), (21, .string (B [UInt8.ofNat (48 + m.natAbs % 10)])), (22, .string (B s))], [⟨b5, 5, [.int .u8 (IntKind.u8.wrap (IntKind.i64.wrap (48 + (if IntKind.i64.wrap (0 - (Int.tmod m 10)) > Int.tmod m 10 then IntKind.i64.wrap (0 - (Int.tmod m 10)) else Int.tmod m 10))))]⟩]⟩ (by rw [fig_chr m hmR]) ?_
    refine RV_run (hs := [0]) (c' := 1) (k' := 12) TOK [] [0, 2, 3, 4, 23] ⟨[(0, .int .i64 n), (2, .string (B ([] : List UInt8))), (3, .string (B s)), (4, .int .i64 m), (23, .string (B [UInt8.ofNat (48 + m.natAbs % 10)] ++ B s))], [⟨b5, 5, [.int .u8 (IntKind.u8.wrap (IntKind.i64.wrap (48 + (if IntKind.i64.wrap (0 - (Int.tmod m 10)) > Int.tmod m 10 then IntKind.i64.wrap (0 - (Int.tmod m 10)) else Int.tmod m 10))))]⟩]⟩ [] [.sz ([UInt8.ofNat (48 + m.natAbs % 10)].length + s.length)] (by kernel_rfl) (by kernel_rfl) ROS_nil (by simp only [Conds, Cond.holds, and_true]; (have := fig_len hJ hn; (try simp only [List.length_cons, List.length_nil]); omega)) ?_
    refine RV_st ⟨[(0, .int .i64 n), (2, .string (B ([] : List UInt8))), (3, .string (B s)), (4, .int .i64 m), (23, .string (B ([UInt8.ofNat (48 + m.natAbs % 10)] ++ s)))], [⟨b5, 5, [.int .u8 (IntKind.u8.wrap (IntKind.i64.wrap (48 + (if IntKind.i64.wrap (0 - (Int.tmod m 10)) > Int.tmod m 10 then IntKind.i64.wrap (0 - (Int.tmod m 10)) else Int.tmod m 10))))]⟩]⟩ (by rw [B_app [UInt8.ofNat (48 + m.natAbs % 10)] s]) ?_
    refine RV_go (hs := [0]) (c' := 0) (k' := 13) TOK [0, 2, 3, 4] ⟨[(0, .int .i64 n), (2, .string (B ([] : List UInt8))), (3, .string (B ([UInt8.ofNat (48 + m.natAbs % 10)] ++ s))), (4, .int .i64 m)], [⟨b5, 5, [.int .u8 (IntKind.u8.wrap (IntKind.i64.wrap (48 + (if IntKind.i64.wrap (0 - (Int.tmod m 10)) > Int.tmod m 10 then IntKind.i64.wrap (0 - (Int.tmod m 10)) else Int.tmod m 10))))]⟩]⟩ [] (by kernel_rfl) (by kernel_rfl) ?_
    refine RV_end ?_
    refine KE_then ?_
    refine VC_region 3 rfl ?_
    refine RV_run (hs := [0, 0]) (c' := 1) (k' := 2) TOK [] [0, 2, 3, 4, 25] ⟨[(0, .int .i64 n), (2, .string (B ([] : List UInt8))), (3, .string (B ([UInt8.ofNat (48 + m.natAbs % 10)] ++ s))), (4, .int .i64 m), (25, .int .i64 (IntKind.i64.wrap (Int.tdiv m 10)))], [⟨b5, 5, [.int .u8 (IntKind.u8.wrap (IntKind.i64.wrap (48 + (if IntKind.i64.wrap (0 - (Int.tmod m 10)) > Int.tmod m 10 then IntKind.i64.wrap (0 - (Int.tmod m 10)) else Int.tmod m 10))))]⟩]⟩ [] [.ne0 10] (by kernel_rfl) (by kernel_rfl) ROS_nil (by simp only [Conds, Cond.holds, and_true]; (have := fig_len hJ hn; (try simp only [List.length_cons, List.length_nil]); omega)) ?_
    refine RV_st ⟨[(0, .int .i64 n), (2, .string (B ([] : List UInt8))), (3, .string (B ([UInt8.ofNat (48 + m.natAbs % 10)] ++ s))), (4, .int .i64 m), (25, .int .i64 (Int.tdiv m 10))], [⟨b5, 5, [.int .u8 (IntKind.u8.wrap (IntKind.i64.wrap (48 + (if IntKind.i64.wrap (0 - (Int.tmod m 10)) > Int.tmod m 10 then IntKind.i64.wrap (0 - (Int.tmod m 10)) else Int.tmod m 10))))]⟩]⟩ (by rw [wrap_id (InR_tdiv hmR)]) ?_
    refine RV_go (hs := [0]) (c' := 0) (k' := 3) TOK [0, 2, 3, 4] ⟨[(0, .int .i64 n), (2, .string (B ([] : List UInt8))), (3, .string (B ([UInt8.ofNat (48 + m.natAbs % 10)] ++ s))), (4, .int .i64 (Int.tdiv m 10))], [⟨b5, 5, [.int .u8 (IntKind.u8.wrap (IntKind.i64.wrap (48 + (if IntKind.i64.wrap (0 - (Int.tmod m 10)) > Int.tmod m 10 then IntKind.i64.wrap (0 - (Int.tmod m 10)) else Int.tmod m 10))))]⟩]⟩ [] (by kernel_rfl) (by kernel_rfl) ?_
    refine RV_end ?_
    refine KE_block ?_
    refine KE_rnd ((Int.tdiv m 10).natAbs + (if (UInt8.ofNat (48 + m.natAbs % 10) :: s) = [] then 1 else 0)) [0, 2, 3, 4] [] 1 ⟨[(0, .int .i64 n), (2, .string (B ([] : List UInt8))), (3, .string (B (UInt8.ofNat (48 + m.natAbs % 10) :: s))), (4, .int .i64 (Int.tdiv m 10))], []⟩ (by kernel_rfl) (by kernel_rfl) (by exact fig_less (by first | (left; assumption) | (right; assumption)) (by simp)) ⟨(Int.tdiv m 10), (UInt8.ofNat (48 + m.natAbs % 10) :: s), (by exact fig_step hJ (by first | (left; assumption) | (right; assumption))), (by exact InR_tdiv hmR), rfl, hx3, rfl⟩
  · skip
    replace h4 : m = 0 := by simpa using h4
    refine RV_go (hs := [0, 0, 0]) (c' := 0) (k' := 6) TOK [0, 2, 3, 4, 11] ⟨[(0, .int .i64 n), (2, .string (B ([] : List UInt8))), (3, .string (B s)), (4, .int .i64 m), (11, .bool ((B s).toList == (B ([] : List UInt8)).toList))], []⟩ [] (by kernel_rfl) (by kernel_rfl) ?_
    refine RV_end ?_
    refine KE_then ?_
    refine VC_cond ((B s).toList == (B ([] : List UInt8)).toList) (by kernel_rfl) (fun h6 => ?_) (fun h6 => ?_)
    · skip
      replace h6 := B_eq h6
      refine VC_skip ?_
      refine KE_then ?_
      refine VC_block ?_
      refine VC_seq ?_
      refine VC_region 13 rfl ?_
      refine RV_run (hs := [0, 0, 0, 0, 0]) (c' := 8) (k' := 5) TOK [] [0, 2, 3, 4, 13, 16] ⟨[(0, .int .i64 n), (2, .string (B ([] : List UInt8))), (3, .string (B s)), (4, .int .i64 m), (13, .int .i64 (Int.tmod m 10)), (16, .int .i64 (IntKind.i64.wrap (0 - (Int.tmod m 10))))], []⟩ [] [.ne0 10, .ne0 10] (by kernel_rfl) (by kernel_rfl) ROS_nil (by simp only [Conds, Cond.holds, and_true]; (have := fig_len hJ hn; (try simp only [List.length_cons, List.length_nil]); omega)) ?_
      refine RV_val (c := 7) maxV [] [0, 2, 3, 4, 17] ⟨[(0, .int .i64 n), (2, .string (B ([] : List UInt8))), (3, .string (B s)), (4, .int .i64 m), (17, .int .i64 (if IntKind.i64.wrap (0 - (Int.tmod m 10)) > Int.tmod m 10 then IntKind.i64.wrap (0 - (Int.tmod m 10)) else Int.tmod m 10))], []⟩ (by kernel_rfl) (fun o v a wa h hA _ => run_max h hA) ?_
      refine RV_go (hs := [0, 0]) (c' := 5) (k' := 8) TOK [0, 2, 3, 4, 19] ⟨[(0, .int .i64 n), (2, .string (B ([] : List UInt8))), (3, .string (B s)), (4, .int .i64 m), (19, .int .u8 (IntKind.u8.wrap (IntKind.i64.wrap (48 + (if IntKind.i64.wrap (0 - (Int.tmod m 10)) > Int.tmod m 10 then IntKind.i64.wrap (0 - (Int.tmod m 10)) else Int.tmod m 10)))))], []⟩ [] (by kernel_rfl) (by kernel_rfl) ?_
      refine RV_new (c := 4) TOK [0, 2, 3, 4, 20] (fun b7 => ⟨[(0, .int .i64 n), (2, .string (B ([] : List UInt8))), (3, .string (B s)), (4, .int .i64 m), (20, .slice (some ⟨b7, 0, none⟩) 1 1)], [⟨b7, 5, [.int .u8 (IntKind.u8.wrap (IntKind.i64.wrap (48 + (if IntKind.i64.wrap (0 - (Int.tmod m 10)) > Int.tmod m 10 then IntKind.i64.wrap (0 - (Int.tmod m 10)) else Int.tmod m 10))))]⟩]⟩) (fun _ => by kernel_rfl) (fun b7 => ?_)
      refine RV_val (c := 3) (chrV T [⟨b7, 5, [.int .u8 (IntKind.u8.wrap (IntKind.i64.wrap (48 + (if IntKind.i64.wrap (0 - (Int.tmod m 10)) > Int.tmod m 10 then IntKind.i64.wrap (0 - (Int.tmod m 10)) else Int.tmod m 10))))]⟩] 0) [b7] [0, 2, 3, 4, 21] ⟨[(0, .int .i64 n), (2, .string (B ([] : List UInt8))), (3, .string (B s)), (4, .int .i64 m), (21, .string (B [UInt8.ofNat (IntKind.u8.wrap (IntKind.i64.wrap (48 + (if IntKind.i64.wrap (0 - (Int.tmod m 10)) > Int.tmod m 10 then IntKind.i64.wrap (0 - (Int.tmod m 10)) else Int.tmod m 10)))).toNat]))], [⟨b7, 5, [.int .u8 (IntKind.u8.wrap (IntKind.i64.wrap (48 + (if IntKind.i64.wrap (0 - (Int.tmod m 10)) > Int.tmod m 10 then IntKind.i64.wrap (0 - (Int.tmod m 10)) else Int.tmod m 10))))]⟩]⟩ (by kernel_rfl) (fun o v a wa h hA hI => run_chr TOK h hA hI.own) ?_
      refine RV_go (hs := [0]) (c' := 2) (k' := 11) TOK [0, 2, 3, 4, 21, 22] ⟨[(0, .int .i64 n), (2, .string (B ([] : List UInt8))), (3, .string (B s)), (4, .int .i64 m), (21, .string (B [UInt8.ofNat (IntKind.u8.wrap (IntKind.i64.wrap (48 + (if IntKind.i64.wrap (0 - (Int.tmod m 10)) > Int.tmod m 10 then IntKind.i64.wrap (0 - (Int.tmod m 10)) else Int.tmod m 10)))).toNat])), (22, .string (B s))], [⟨b7, 5, [.int .u8 (IntKind.u8.wrap (IntKind.i64.wrap (48 + (if IntKind.i64.wrap (0 - (Int.tmod m 10)) > Int.tmod m 10 then IntKind.i64.wrap (0 - (Int.tmod m 10)) else Int.tmod m 10))))]⟩]⟩ [] (by kernel_rfl) (by kernel_rfl) ?_
      refine RV_st ⟨[(0, .int .i64 n), (2, .string (B ([] : List UInt8))), (3, .string (B s)), (4, .int .i64 m), (21, .string (B [UInt8.ofNat (48 + m.natAbs % 10)])), (22, .string (B s))], [⟨b7, 5, [.int .u8 (IntKind.u8.wrap (IntKind.i64.wrap (48 + (if IntKind.i64.wrap (0 - (Int.tmod m 10)) > Int.tmod m 10 then IntKind.i64.wrap (0 - (Int.tmod m 10)) else Int.tmod m 10))))]⟩]⟩ (by rw [fig_chr m hmR]) ?_
      refine RV_run (hs := [0]) (c' := 1) (k' := 12) TOK [] [0, 2, 3, 4, 23] ⟨[(0, .int .i64 n), (2, .string (B ([] : List UInt8))), (3, .string (B s)), (4, .int .i64 m), (23, .string (B [UInt8.ofNat (48 + m.natAbs % 10)] ++ B s))], [⟨b7, 5, [.int .u8 (IntKind.u8.wrap (IntKind.i64.wrap (48 + (if IntKind.i64.wrap (0 - (Int.tmod m 10)) > Int.tmod m 10 then IntKind.i64.wrap (0 - (Int.tmod m 10)) else Int.tmod m 10))))]⟩]⟩ [] [.sz ([UInt8.ofNat (48 + m.natAbs % 10)].length + s.length)] (by kernel_rfl) (by kernel_rfl) ROS_nil (by simp only [Conds, Cond.holds, and_true]; (have := fig_len hJ hn; (try simp only [List.length_cons, List.length_nil]); omega)) ?_
      refine RV_st ⟨[(0, .int .i64 n), (2, .string (B ([] : List UInt8))), (3, .string (B s)), (4, .int .i64 m), (23, .string (B ([UInt8.ofNat (48 + m.natAbs % 10)] ++ s)))], [⟨b7, 5, [.int .u8 (IntKind.u8.wrap (IntKind.i64.wrap (48 + (if IntKind.i64.wrap (0 - (Int.tmod m 10)) > Int.tmod m 10 then IntKind.i64.wrap (0 - (Int.tmod m 10)) else Int.tmod m 10))))]⟩]⟩ (by rw [B_app [UInt8.ofNat (48 + m.natAbs % 10)] s]) ?_
      refine RV_go (hs := [0]) (c' := 0) (k' := 13) TOK [0, 2, 3, 4] ⟨[(0, .int .i64 n), (2, .string (B ([] : List UInt8))), (3, .string (B ([UInt8.ofNat (48 + m.natAbs % 10)] ++ s))), (4, .int .i64 m)], [⟨b7, 5, [.int .u8 (IntKind.u8.wrap (IntKind.i64.wrap (48 + (if IntKind.i64.wrap (0 - (Int.tmod m 10)) > Int.tmod m 10 then IntKind.i64.wrap (0 - (Int.tmod m 10)) else Int.tmod m 10))))]⟩]⟩ [] (by kernel_rfl) (by kernel_rfl) ?_
      refine RV_end ?_
      refine KE_then ?_
      refine VC_region 3 rfl ?_
      refine RV_run (hs := [0, 0]) (c' := 1) (k' := 2) TOK [] [0, 2, 3, 4, 25] ⟨[(0, .int .i64 n), (2, .string (B ([] : List UInt8))), (3, .string (B ([UInt8.ofNat (48 + m.natAbs % 10)] ++ s))), (4, .int .i64 m), (25, .int .i64 (IntKind.i64.wrap (Int.tdiv m 10)))], [⟨b7, 5, [.int .u8 (IntKind.u8.wrap (IntKind.i64.wrap (48 + (if IntKind.i64.wrap (0 - (Int.tmod m 10)) > Int.tmod m 10 then IntKind.i64.wrap (0 - (Int.tmod m 10)) else Int.tmod m 10))))]⟩]⟩ [] [.ne0 10] (by kernel_rfl) (by kernel_rfl) ROS_nil (by simp only [Conds, Cond.holds, and_true]; (have := fig_len hJ hn; (try simp only [List.length_cons, List.length_nil]); omega)) ?_
      refine RV_st ⟨[(0, .int .i64 n), (2, .string (B ([] : List UInt8))), (3, .string (B ([UInt8.ofNat (48 + m.natAbs % 10)] ++ s))), (4, .int .i64 m), (25, .int .i64 (Int.tdiv m 10))], [⟨b7, 5, [.int .u8 (IntKind.u8.wrap (IntKind.i64.wrap (48 + (if IntKind.i64.wrap (0 - (Int.tmod m 10)) > Int.tmod m 10 then IntKind.i64.wrap (0 - (Int.tmod m 10)) else Int.tmod m 10))))]⟩]⟩ (by rw [wrap_id (InR_tdiv hmR)]) ?_
      refine RV_go (hs := [0]) (c' := 0) (k' := 3) TOK [0, 2, 3, 4] ⟨[(0, .int .i64 n), (2, .string (B ([] : List UInt8))), (3, .string (B ([UInt8.ofNat (48 + m.natAbs % 10)] ++ s))), (4, .int .i64 (Int.tdiv m 10))], [⟨b7, 5, [.int .u8 (IntKind.u8.wrap (IntKind.i64.wrap (48 + (if IntKind.i64.wrap (0 - (Int.tmod m 10)) > Int.tmod m 10 then IntKind.i64.wrap (0 - (Int.tmod m 10)) else Int.tmod m 10))))]⟩]⟩ [] (by kernel_rfl) (by kernel_rfl) ?_
      refine RV_end ?_
      refine KE_block ?_
      refine KE_rnd ((Int.tdiv m 10).natAbs + (if (UInt8.ofNat (48 + m.natAbs % 10) :: s) = [] then 1 else 0)) [0, 2, 3, 4] [] 1 ⟨[(0, .int .i64 n), (2, .string (B ([] : List UInt8))), (3, .string (B (UInt8.ofNat (48 + m.natAbs % 10) :: s))), (4, .int .i64 (Int.tdiv m 10))], []⟩ (by kernel_rfl) (by kernel_rfl) (by exact fig_less (by first | (left; assumption) | (right; assumption)) (by simp)) ⟨(Int.tdiv m 10), (UInt8.ofNat (48 + m.natAbs % 10) :: s), (by exact fig_step hJ (by first | (left; assumption) | (right; assumption))), (by exact InR_tdiv hmR), rfl, hx3, rfl⟩
    · skip
      replace h6 := B_ne h6
      refine VC_exit ?_
      refine KE_exit_then ?_
      refine KE_exit_then ?_
      refine KE_exit_here ?_
      refine KE_then ?_
      refine VC_seq ?_
      refine VC_go (hs := [0, 0]) TOK [2, 3, 27] ⟨[(2, .string (B ([] : List UInt8))), (3, .string (B s)), (27, .bool (decide (n < 0)))], []⟩ [] (by kernel_rfl) (by kernel_rfl) ?_
      refine VC_cond (decide (n < 0)) (by kernel_rfl) (fun h8 => ?_) (fun h8 => ?_)
      · skip
        replace h8 := of_decide_eq_true h8
        refine VC_seq ?_
        refine VC_region 3 rfl ?_
        refine RV_run (hs := [0, 0]) (c' := 1) (k' := 2) TOK [] [2, 3, 29] ⟨[(2, .string (B ([] : List UInt8))), (3, .string (B s)), (29, .string (B ([45] : List UInt8) ++ B s))], []⟩ [] [.sz (([45] : List UInt8).length + s.length)] (by kernel_rfl) (by kernel_rfl) ROS_nil (by simp only [Conds, Cond.holds, and_true]; (have := fig_len hJ hn; (try simp only [List.length_cons, List.length_nil]); omega)) ?_
        refine RV_st ⟨[(2, .string (B ([] : List UInt8))), (3, .string (B s)), (29, .string (B (([45] : List UInt8) ++ s)))], []⟩ (by rw [B_app ([45] : List UInt8) s]) ?_
        refine RV_go (hs := [0]) (c' := 0) (k' := 3) TOK [2, 3] ⟨[(2, .string (B (([45] : List UInt8) ++ s))), (3, .string (B s))], []⟩ [] (by kernel_rfl) (by kernel_rfl) ?_
        refine RV_end ?_
        refine KE_then ?_
        refine VC_ret (ls := []) TOK [] 0 false [] [.string (B (([45] : List UInt8) ++ s))] [] ([]) rfl (by kernel_rfl) (by kernel_rfl) (fun w9 hx9 => ?_)
        show (.string (B (([45] : List UInt8) ++ s)) : Value) = .string (B (Lib.itoa n))
        have he := fig_end hJ (by assumption) (by assumption)
        subst he
        first
          | rw [fig_neg (by assumption)]
          | rw [fig_pos (by assumption)]
      · skip
        replace h8 := of_decide_eq_false h8
        refine VC_skip ?_
        refine KE_then ?_
        refine VC_go (hs := [0, 0]) TOK [2] ⟨[(2, .string (B s))], []⟩ [] (by kernel_rfl) (by kernel_rfl) ?_
        refine VC_ret (ls := []) TOK [] 0 false [] [.string (B s)] [] ([]) rfl (by kernel_rfl) (by kernel_rfl) (fun w9 hx9 => ?_)
        show (.string (B s) : Value) = .string (B (Lib.itoa n))
        have he := fig_end hJ (by assumption) (by assumption)
        subst he
        first
          | rw [fig_neg (by assumption)]
          | rw [fig_pos (by assumption)]

end Go.YtmfkmoecbnghhaaDoor
