/- Contracts of functions, over the symbolic executor: each comes to what its theorem says. Written by gen.py, a program of this work. -/
import Derived.Test.YtmfkmoecbnghhaaDoorA2
namespace Go.YtmfkmoecbnghhaaDoor
open Go Eng Go.Proofs Law
set_option linter.unusedVariables false
set_option linter.unusedSimpArgs false

theorem sign_yes {l : List UInt8} {p : Nat} (h : (p : Int) < (l.length : Int)) (h2 : ((l.getD p 0).toNat : Int) = 45) : (true = true ↔ l[p]? = some 45) := by
  have hp : p < l.length := by omega
  rw [List.getElem?_eq_getElem hp]
  rw [List.getD_eq_getElem?_getD, List.getElem?_eq_getElem hp] at h2
  simp only [Option.getD_some] at h2
  simp only [true_iff, Option.some.injEq]
  exact UInt8.toNat_inj.1 (by show _ = 45; omega)
theorem sign_no {l : List UInt8} {p : Nat} (h : ¬ ((p : Int) < (l.length : Int)) ∨ ((l.getD p 0).toNat : Int) ≠ 45) : (false = true ↔ l[p]? = some 45) := by
  simp only [Bool.false_eq_true, false_iff]
  intro e
  have hp := (List.getElem?_eq_some_iff.1 e).1
  rcases h with h | h
  · omega
  · apply h
    rw [List.getD_eq_getElem?_getD, e]
    rfl
theorem num_no2 {l : List UInt8} {p q i n : Nat} {bel : Bool} (J : NumJ l p q i n bel) (hs : Stops l i n) {e : UInt8} (he : ¬ Dig e) {x : Int} (hx : x = signed bel n)
    (h : ¬ ((i : Int) < (l.length : Int)) ∨ ((l.getD i 0).toNat : Int) ≠ (e.toNat : Int) ∨ x > 4611686018427387904 ∨ x < -4611686018427387904 ∨ Lib.itoa x ≠ (l.take i).drop p) : NumR l p e 0 (-1) := by
  subst hx
  refine num_no J hs he ?_
  rcases h with h | h | h | h | h
  · exact .inl (by omega)
  · exact .inr (.inl fun e => h (by rw [e]))
  · exact .inr (.inr (.inl fun r => by unfold Rg at r; omega))
  · exact .inr (.inr (.inl fun r => by unfold Rg at r; omega))
  · exact .inr (.inr (.inr h))
theorem num_yes2 {l : List UInt8} {p q i n : Nat} {bel : Bool} (J : NumJ l p q i n bel) {e : UInt8} {x r : Int} (hx : x = signed bel n) (h1 : (i : Int) < (l.length : Int)) (h2 : ((l.getD i 0).toNat : Int) = (e.toNat : Int))
    (h3 : x ≤ 4611686018427387904) (h4 : -4611686018427387904 ≤ x) (h5 : Lib.itoa x = (l.take i).drop p) (hr : r = (i : Int) + 1) : NumR l p e x r := by
  subst hx
  subst hr
  have := num_yes J (e := e) (by omega) (UInt8.toNat_inj.1 (by omega)) ⟨h4, h3⟩ h5
  simpa using this

theorem f36 (l : List UInt8) (p : Nat) (e : UInt8) (S : Nat → Prop) (w : World) (hP : Pre S w []) (hpl : p ≤ l.length) (hl : l.length ≤ 1000000) (he : ¬ Dig e) :
    Calls Tryd.prog 36 #[.string (B l), .int .i64 (p : Int), .int .u8 (e.toNat : Int)] w (Ret S w [] fun v_ ls_ S_ w_ => ∃ k r, v_ = .tuple #[.int .i64 k, .int .i64 r] ∧ NumR l p e k r) := by
  refine Calls_of_VC (ls := []) ⟨[(0, .string (B l)), (1, .int .i64 (p : Int)), (2, .int .u8 (e.toNat : Int))], []⟩ Tryd.func36 rfl (by kernel_rfl) (by kernel_rfl) hP ?_
  refine VC_go (hs := [0, 0]) TOK [0, 1, 2, 6, 7] ⟨[(0, .string (B l)), (1, .int .i64 (p : Int)), (2, .int .u8 (e.toNat : Int)), (6, .int .i64 0), (7, .int .i64 0)], []⟩ [] (by kernel_rfl) (by kernel_rfl) ?_
  refine VC_go (hs := [0, 0]) TOK [0, 1, 2, 6, 7, 8] ⟨[(0, .string (B l)), (1, .int .i64 (p : Int)), (2, .int .u8 (e.toNat : Int)), (6, .int .i64 0), (7, .int .i64 0), (8, .int .i64 (p : Int))], []⟩ [] (by kernel_rfl) (by kernel_rfl) ?_
  refine VC_go (hs := [0]) TOK [0, 1, 2, 6, 7, 8, 9] ⟨[(0, .string (B l)), (1, .int .i64 (p : Int)), (2, .int .u8 (e.toNat : Int)), (6, .int .i64 0), (7, .int .i64 0), (8, .int .i64 (p : Int)), (9, .int .i64 0)], []⟩ [] (by kernel_rfl) (by kernel_rfl) ?_
  refine VC_seq ?_
  refine VC_region 11 rfl ?_
  refine RV_go (hs := [0, 0, 0, 0, 0]) (c' := 6) (k' := 5) TOK [0, 1, 2, 6, 7, 8, 9, 16] ⟨[(0, .string (B l)), (1, .int .i64 (p : Int)), (2, .int .u8 (e.toNat : Int)), (6, .int .i64 0), (7, .int .i64 0), (8, .int .i64 (p : Int)), (9, .int .i64 0), (16, .bool (decide ((p : Int) < (l.length : Int))))], []⟩ [] (by kernel_rfl) (by kernel_rfl) ?_
  refine RV_case (decide ((p : Int) < (l.length : Int))) (fun bb => ⟨[(0, .string (B l)), (1, .int .i64 (p : Int)), (2, .int .u8 (e.toNat : Int)), (6, .int .i64 0), (7, .int .i64 0), (8, .int .i64 (p : Int)), (9, .int .i64 0), (16, .bool bb)], []⟩) (by kernel_rfl) (fun h1 => ?_) (fun h1 => ?_)
  · skip
    replace h1 := of_decide_eq_true h1
    refine RV_run (hs := [0, 0, 0, 0, 0, 0]) (c' := 0) (k' := 11) TOK [] [0, 1, 2, 6, 7, 8, 9, 10] ⟨[(0, .string (B l)), (1, .int .i64 (p : Int)), (2, .int .u8 (e.toNat : Int)), (6, .int .i64 0), (7, .int .i64 0), (8, .int .i64 (p : Int)), (9, .int .i64 0), (10, .bool (((l.getD p 0).toNat : Int) == 45))], []⟩ [] [.lt (p : Int) l.length] (by kernel_rfl) (by kernel_rfl) ROS_nil (by simp only [Conds, Cond.holds, and_true]; first | omega | (have hle := hJ.le; omega)) ?_
    refine RV_end ?_
    refine KE_then ?_
    refine VC_seq ?_
    refine VC_go (hs := [0]) TOK [0, 1, 2, 6, 7, 8, 9, 10, 22] ⟨[(0, .string (B l)), (1, .int .i64 (p : Int)), (2, .int .u8 (e.toNat : Int)), (6, .int .i64 0), (7, .int .i64 0), (8, .int .i64 (p : Int)), (9, .int .i64 0), (10, .bool (((l.getD p 0).toNat : Int) == 45)), (22, .bool (((l.getD p 0).toNat : Int) == 45))], []⟩ [] (by kernel_rfl) (by kernel_rfl) ?_
    refine VC_cond (((l.getD p 0).toNat : Int) == 45) (by kernel_rfl) (fun h2 => ?_) (fun h2 => ?_)
    · skip
      refine VC_keep [0, 1, 2, 6, 7, 8, 9, 10] [] 0 ⟨[(0, .string (B l)), (1, .int .i64 (p : Int)), (2, .int .u8 (e.toNat : Int)), (6, .int .i64 0), (7, .int .i64 0), (8, .int .i64 (p : Int)), (9, .int .i64 0), (10, .bool (((l.getD p 0).toNat : Int) == 45))], []⟩ (by kernel_rfl) (by kernel_rfl) ?_
      refine VC_st ⟨[(0, .string (B l)), (1, .int .i64 (p : Int)), (2, .int .u8 (e.toNat : Int)), (6, .int .i64 0), (7, .int .i64 0), (8, .int .i64 (p : Int)), (9, .int .i64 0), (10, .bool true)], []⟩ (by rw [h2]) ?_
      replace h2 := eq_of_beq h2
      refine VC_region 3 rfl ?_
      refine RV_go (hs := [0, 0]) (c' := 1) (k' := 2) TOK [0, 1, 2, 6, 7, 8, 9, 10, 24] ⟨[(0, .string (B l)), (1, .int .i64 (p : Int)), (2, .int .u8 (e.toNat : Int)), (6, .int .i64 0), (7, .int .i64 0), (8, .int .i64 (p : Int)), (9, .int .i64 0), (10, .bool true), (24, .int .i64 (IntKind.i64.wrap ((p : Int) + 1)))], []⟩ [] (by kernel_rfl) (by kernel_rfl) ?_
      refine RV_st ⟨[(0, .string (B l)), (1, .int .i64 (p : Int)), (2, .int .u8 (e.toNat : Int)), (6, .int .i64 0), (7, .int .i64 0), (8, .int .i64 (p : Int)), (9, .int .i64 0), (10, .bool true), (24, .int .i64 ((p : Int) + 1))], []⟩ (by rw [wrap_id (x := (p : Int) + 1) (by unfold InR; first | omega | (have hu := UInt8.toNat_lt (l.getD i 0); omega))]) ?_
      refine RV_go (hs := [0]) (c' := 0) (k' := 3) TOK [0, 1, 2, 6, 7, 8, 9, 10] ⟨[(0, .string (B l)), (1, .int .i64 (p : Int)), (2, .int .u8 (e.toNat : Int)), (6, .int .i64 0), (7, .int .i64 0), (8, .int .i64 ((p : Int) + 1)), (9, .int .i64 0), (10, .bool true)], []⟩ [] (by kernel_rfl) (by kernel_rfl) ?_
      refine RV_end ?_
      refine KE_then ?_
      refine VC_seq ?_
      refine VC_block ?_
      refine VC_keep [0, 1, 2, 6, 7, 8, 9, 10] [] 0 ⟨[(0, .string (B l)), (1, .int .i64 (p : Int)), (2, .int .u8 (e.toNat : Int)), (6, .int .i64 0), (7, .int .i64 0), (8, .int .i64 (((p + 1) : Nat) : Int)), (9, .int .i64 (0 : Int)), (10, .bool true)], []⟩ (by kernel_rfl) (by kernel_rfl) ?_
      refine VC_loop (J := fun m_ S' w' st_ => ∃ (i : Nat) (n : Nat), (NumJ l p (p + 1) i n true) ∧ (n ≤ 4611686018427387919) ∧ m_ = l.length - i ∧ Ext S w S' w' ∧ st_ = ⟨[(0, .string (B l)), (1, .int .i64 (p : Int)), (2, .int .u8 (e.toNat : Int)), (6, .int .i64 0), (7, .int .i64 0), (8, .int .i64 (i : Int)), (9, .int .i64 (n : Int)), (10, .bool true)], []⟩) (l.length - (p + 1)) ⟨(p + 1), 0, (by exact num_start hpl true (sign_yes (by omega) (by assumption)) (by simp <;> omega)), (by exact Nat.zero_le _), rfl, Ext.refl _ _, rfl⟩ ?_
      rintro _ S3 w4 _ ⟨i, n, hJ, hn, rfl, hx5, rfl⟩
      -- a round
      refine VC_seq ?_
      refine VC_seq ?_
      refine VC_region 20 rfl ?_
      refine RV_go (hs := [0, 0, 0, 0, 0]) (c' := 15) (k' := 5) TOK [0, 1, 2, 6, 7, 8, 9, 10, 29] ⟨[(0, .string (B l)), (1, .int .i64 (p : Int)), (2, .int .u8 (e.toNat : Int)), (6, .int .i64 0), (7, .int .i64 0), (8, .int .i64 (i : Int)), (9, .int .i64 (n : Int)), (10, .bool true), (29, .bool (decide ((i : Int) < (l.length : Int))))], []⟩ [] (by kernel_rfl) (by kernel_rfl) ?_
      refine RV_case (decide ((i : Int) < (l.length : Int))) (fun bb => ⟨[(0, .string (B l)), (1, .int .i64 (p : Int)), (2, .int .u8 (e.toNat : Int)), (6, .int .i64 0), (7, .int .i64 0), (8, .int .i64 (i : Int)), (9, .int .i64 (n : Int)), (10, .bool true), (29, .bool bb)], []⟩) (by kernel_rfl) (fun h6 => ?_) (fun h6 => ?_)
      · skip
        replace h6 := of_decide_eq_true h6
        refine RV_run (hs := [0, 0, 0, 0, 0, 0]) (c' := 9) (k' := 11) TOK [] [0, 1, 2, 6, 7, 8, 9, 10, 35] ⟨[(0, .string (B l)), (1, .int .i64 (p : Int)), (2, .int .u8 (e.toNat : Int)), (6, .int .i64 0), (7, .int .i64 0), (8, .int .i64 (i : Int)), (9, .int .i64 (n : Int)), (10, .bool true), (35, .bool (decide (((l.getD i 0).toNat : Int) ≥ 48)))], []⟩ [] [.lt (i : Int) l.length] (by kernel_rfl) (by kernel_rfl) ROS_nil (by simp only [Conds, Cond.holds, and_true]; first | omega | (have hle := hJ.le; omega)) ?_
        refine RV_case (decide (((l.getD i 0).toNat : Int) ≥ 48)) (fun bb => ⟨[(0, .string (B l)), (1, .int .i64 (p : Int)), (2, .int .u8 (e.toNat : Int)), (6, .int .i64 0), (7, .int .i64 0), (8, .int .i64 (i : Int)), (9, .int .i64 (n : Int)), (10, .bool true), (35, .bool bb)], []⟩) (by kernel_rfl) (fun h7 => ?_) (fun h7 => ?_)
        · skip
          replace h7 := of_decide_eq_true h7
          refine RV_run (hs := [0, 0, 0, 0, 0, 0]) (c' := 3) (k' := 17) TOK [] [0, 1, 2, 6, 7, 8, 9, 10, 41] ⟨[(0, .string (B l)), (1, .int .i64 (p : Int)), (2, .int .u8 (e.toNat : Int)), (6, .int .i64 0), (7, .int .i64 0), (8, .int .i64 (i : Int)), (9, .int .i64 (n : Int)), (10, .bool true), (41, .bool (decide (((l.getD i 0).toNat : Int) ≤ 57)))], []⟩ [] [.lt (i : Int) l.length] (by kernel_rfl) (by kernel_rfl) ROS_nil (by simp only [Conds, Cond.holds, and_true]; first | omega | (have hle := hJ.le; omega)) ?_
          refine RV_case (decide (((l.getD i 0).toNat : Int) ≤ 57)) (fun bb => ⟨[(0, .string (B l)), (1, .int .i64 (p : Int)), (2, .int .u8 (e.toNat : Int)), (6, .int .i64 0), (7, .int .i64 0), (8, .int .i64 (i : Int)), (9, .int .i64 (n : Int)), (10, .bool true), (41, .bool bb)], []⟩) (by kernel_rfl) (fun h8 => ?_) (fun h8 => ?_)
          · skip
            replace h8 := of_decide_eq_true h8
            refine RV_go (hs := [0, 0, 0]) (c' := 0) (k' := 20) TOK [0, 1, 2, 6, 7, 8, 9, 10, 44] ⟨[(0, .string (B l)), (1, .int .i64 (p : Int)), (2, .int .u8 (e.toNat : Int)), (6, .int .i64 0), (7, .int .i64 0), (8, .int .i64 (i : Int)), (9, .int .i64 (n : Int)), (10, .bool true), (44, .bool (decide ((n : Int) ≤ 461168601842738791)))], []⟩ [] (by kernel_rfl) (by kernel_rfl) ?_
            refine RV_end ?_
            refine KE_then ?_
            refine VC_cond (decide ((n : Int) ≤ 461168601842738791)) (by kernel_rfl) (fun h9 => ?_) (fun h9 => ?_)
            · skip
              replace h9 := of_decide_eq_true h9
              refine VC_skip ?_
              refine KE_then ?_
              refine VC_block ?_
              refine VC_seq ?_
              refine VC_region 9 rfl ?_
              refine RV_go (hs := [0, 0]) (c' := 7) (k' := 2) TOK [0, 1, 2, 6, 7, 8, 9, 10, 46] ⟨[(0, .string (B l)), (1, .int .i64 (p : Int)), (2, .int .u8 (e.toNat : Int)), (6, .int .i64 0), (7, .int .i64 0), (8, .int .i64 (i : Int)), (9, .int .i64 (n : Int)), (10, .bool true), (46, .int .i64 (IntKind.i64.wrap (10 * (n : Int))))], []⟩ [] (by kernel_rfl) (by kernel_rfl) ?_
              refine RV_st ⟨[(0, .string (B l)), (1, .int .i64 (p : Int)), (2, .int .u8 (e.toNat : Int)), (6, .int .i64 0), (7, .int .i64 0), (8, .int .i64 (i : Int)), (9, .int .i64 (n : Int)), (10, .bool true), (46, .int .i64 (10 * (n : Int)))], []⟩ (by rw [wrap_id (x := 10 * (n : Int)) (by unfold InR; first | omega | (have hu := UInt8.toNat_lt (l.getD i 0); omega))]) ?_
              refine RV_run (hs := [0, 0, 0, 0]) (c' := 3) (k' := 6) TOK [] [0, 1, 2, 6, 7, 8, 9, 10, 46, 50] ⟨[(0, .string (B l)), (1, .int .i64 (p : Int)), (2, .int .u8 (e.toNat : Int)), (6, .int .i64 0), (7, .int .i64 0), (8, .int .i64 (i : Int)), (9, .int .i64 (n : Int)), (10, .bool true), (46, .int .i64 (10 * (n : Int))), (50, .int .i64 (IntKind.i64.wrap ((l.getD i 0).toNat : Int)))], []⟩ [] [.lt (i : Int) l.length] (by kernel_rfl) (by kernel_rfl) ROS_nil (by simp only [Conds, Cond.holds, and_true]; first | omega | (have hle := hJ.le; omega)) ?_
              refine RV_st ⟨[(0, .string (B l)), (1, .int .i64 (p : Int)), (2, .int .u8 (e.toNat : Int)), (6, .int .i64 0), (7, .int .i64 0), (8, .int .i64 (i : Int)), (9, .int .i64 (n : Int)), (10, .bool true), (46, .int .i64 (10 * (n : Int))), (50, .int .i64 ((l.getD i 0).toNat : Int))], []⟩ (by rw [wrap_id (x := ((l.getD i 0).toNat : Int)) (by unfold InR; first | omega | (have hu := UInt8.toNat_lt (l.getD i 0); omega))]) ?_
              refine RV_go (hs := [0]) (c' := 2) (k' := 7) TOK [0, 1, 2, 6, 7, 8, 9, 10, 51] ⟨[(0, .string (B l)), (1, .int .i64 (p : Int)), (2, .int .u8 (e.toNat : Int)), (6, .int .i64 0), (7, .int .i64 0), (8, .int .i64 (i : Int)), (9, .int .i64 (n : Int)), (10, .bool true), (51, .int .i64 (IntKind.i64.wrap ((10 * (n : Int)) + ((l.getD i 0).toNat : Int))))], []⟩ [] (by kernel_rfl) (by kernel_rfl) ?_
              refine RV_st ⟨[(0, .string (B l)), (1, .int .i64 (p : Int)), (2, .int .u8 (e.toNat : Int)), (6, .int .i64 0), (7, .int .i64 0), (8, .int .i64 (i : Int)), (9, .int .i64 (n : Int)), (10, .bool true), (51, .int .i64 ((10 * (n : Int)) + ((l.getD i 0).toNat : Int)))], []⟩ (by rw [wrap_id (x := (10 * (n : Int)) + ((l.getD i 0).toNat : Int)) (by unfold InR; first | omega | (have hu := UInt8.toNat_lt (l.getD i 0); omega))]) ?_
              refine RV_go (hs := [0]) (c' := 1) (k' := 8) TOK [0, 1, 2, 6, 7, 8, 9, 10, 52] ⟨[(0, .string (B l)), (1, .int .i64 (p : Int)), (2, .int .u8 (e.toNat : Int)), (6, .int .i64 0), (7, .int .i64 0), (8, .int .i64 (i : Int)), (9, .int .i64 (n : Int)), (10, .bool true), (52, .int .i64 (IntKind.i64.wrap (((10 * (n : Int)) + ((l.getD i 0).toNat : Int)) - 48)))], []⟩ [] (by kernel_rfl) (by kernel_rfl) ?_
              refine RV_st ⟨[(0, .string (B l)), (1, .int .i64 (p : Int)), (2, .int .u8 (e.toNat : Int)), (6, .int .i64 0), (7, .int .i64 0), (8, .int .i64 (i : Int)), (9, .int .i64 (n : Int)), (10, .bool true), (52, .int .i64 (((10 * (n : Int)) + ((l.getD i 0).toNat : Int)) - 48))], []⟩ (by rw [wrap_id (x := ((10 * (n : Int)) + ((l.getD i 0).toNat : Int)) - 48) (by unfold InR; first | omega | (have hu := UInt8.toNat_lt (l.getD i 0); omega))]) ?_
              refine RV_go (hs := [0]) (c' := 0) (k' := 9) TOK [0, 1, 2, 6, 7, 8, 9, 10] ⟨[(0, .string (B l)), (1, .int .i64 (p : Int)), (2, .int .u8 (e.toNat : Int)), (6, .int .i64 0), (7, .int .i64 0), (8, .int .i64 (i : Int)), (9, .int .i64 (((10 * (n : Int)) + ((l.getD i 0).toNat : Int)) - 48)), (10, .bool true)], []⟩ [] (by kernel_rfl) (by kernel_rfl) ?_
              refine RV_end ?_
              refine KE_then ?_
              refine VC_region 3 rfl ?_
              refine RV_go (hs := [0, 0]) (c' := 1) (k' := 2) TOK [0, 1, 2, 6, 7, 8, 9, 10, 54] ⟨[(0, .string (B l)), (1, .int .i64 (p : Int)), (2, .int .u8 (e.toNat : Int)), (6, .int .i64 0), (7, .int .i64 0), (8, .int .i64 (i : Int)), (9, .int .i64 (((10 * (n : Int)) + ((l.getD i 0).toNat : Int)) - 48)), (10, .bool true), (54, .int .i64 (IntKind.i64.wrap ((i : Int) + 1)))], []⟩ [] (by kernel_rfl) (by kernel_rfl) ?_
              refine RV_st ⟨[(0, .string (B l)), (1, .int .i64 (p : Int)), (2, .int .u8 (e.toNat : Int)), (6, .int .i64 0), (7, .int .i64 0), (8, .int .i64 (i : Int)), (9, .int .i64 (((10 * (n : Int)) + ((l.getD i 0).toNat : Int)) - 48)), (10, .bool true), (54, .int .i64 ((i : Int) + 1))], []⟩ (by rw [wrap_id (x := (i : Int) + 1) (by unfold InR; first | omega | (have hu := UInt8.toNat_lt (l.getD i 0); omega))]) ?_
              refine RV_go (hs := [0]) (c' := 0) (k' := 3) TOK [0, 1, 2, 6, 7, 8, 9, 10] ⟨[(0, .string (B l)), (1, .int .i64 (p : Int)), (2, .int .u8 (e.toNat : Int)), (6, .int .i64 0), (7, .int .i64 0), (8, .int .i64 ((i : Int) + 1)), (9, .int .i64 (((10 * (n : Int)) + ((l.getD i 0).toNat : Int)) - 48)), (10, .bool true)], []⟩ [] (by kernel_rfl) (by kernel_rfl) ?_
              refine RV_end ?_
              refine KE_block ?_
              refine KE_st ⟨[(0, .string (B l)), (1, .int .i64 (p : Int)), (2, .int .u8 (e.toNat : Int)), (6, .int .i64 0), (7, .int .i64 0), (8, .int .i64 ((i : Int) + 1)), (9, .int .i64 ((10 * n + ((l.getD i 0).toNat - 48) : Nat) : Int)), (10, .bool true)], []⟩ (by rw [show ((10 * (n : Int)) + ((l.getD i 0).toNat : Int)) - 48 = ((10 * n + ((l.getD i 0).toNat - 48) : Nat) : Int) from by omega]) ?_
              refine KE_rnd (l.length - (i + 1)) [0, 1, 2, 6, 7, 8, 9, 10] [] 0 ⟨[(0, .string (B l)), (1, .int .i64 (p : Int)), (2, .int .u8 (e.toNat : Int)), (6, .int .i64 0), (7, .int .i64 0), (8, .int .i64 (((i + 1) : Nat) : Int)), (9, .int .i64 (((10 * n + ((l.getD i 0).toNat - 48)) : Nat) : Int)), (10, .bool true)], []⟩ (by kernel_rfl) (by kernel_rfl) (by omega) ⟨(i + 1), (10 * n + ((l.getD i 0).toNat - 48)), (by exact num_next hJ (by omega) (by omega)), (by omega), rfl, hx5, rfl⟩
            · skip
              replace h9 := of_decide_eq_false h9
              refine VC_exit ?_
              refine KE_exit_then ?_
              refine KE_exit_then ?_
              refine KE_exit_here ?_
              refine KE_then ?_
              refine VC_seq ?_
              refine VC_go (hs := [0]) TOK [0, 1, 2, 6, 7, 8, 9, 55] ⟨[(0, .string (B l)), (1, .int .i64 (p : Int)), (2, .int .u8 (e.toNat : Int)), (6, .int .i64 0), (7, .int .i64 0), (8, .int .i64 (i : Int)), (9, .int .i64 (n : Int)), (55, .bool true)], []⟩ [] (by kernel_rfl) (by kernel_rfl) ?_
              refine VC_true (by kernel_rfl) ?_
              refine VC_region 3 rfl ?_
              refine RV_go (hs := [0, 0]) (c' := 1) (k' := 2) TOK [0, 1, 2, 6, 7, 8, 9, 57] ⟨[(0, .string (B l)), (1, .int .i64 (p : Int)), (2, .int .u8 (e.toNat : Int)), (6, .int .i64 0), (7, .int .i64 0), (8, .int .i64 (i : Int)), (9, .int .i64 (n : Int)), (57, .int .i64 (IntKind.i64.wrap (0 - (n : Int))))], []⟩ [] (by kernel_rfl) (by kernel_rfl) ?_
              refine RV_st ⟨[(0, .string (B l)), (1, .int .i64 (p : Int)), (2, .int .u8 (e.toNat : Int)), (6, .int .i64 0), (7, .int .i64 0), (8, .int .i64 (i : Int)), (9, .int .i64 (n : Int)), (57, .int .i64 (0 - (n : Int)))], []⟩ (by rw [wrap_id (x := 0 - (n : Int)) (by unfold InR; first | omega | (have hu := UInt8.toNat_lt (l.getD i 0); omega))]) ?_
              refine RV_go (hs := [0]) (c' := 0) (k' := 3) TOK [0, 1, 2, 6, 7, 8, 9] ⟨[(0, .string (B l)), (1, .int .i64 (p : Int)), (2, .int .u8 (e.toNat : Int)), (6, .int .i64 0), (7, .int .i64 0), (8, .int .i64 (i : Int)), (9, .int .i64 (0 - (n : Int)))], []⟩ [] (by kernel_rfl) (by kernel_rfl) ?_
              refine RV_end ?_
              refine KE_then ?_
              refine VC_seq ?_
              refine VC_seq ?_
              refine VC_draw MIX [] 28 rfl ?_
              refine RVd_take (fuel' := 23) TOK [] [(0, 0), (1, 0), (2, 0), (3, 0), (4, 0)] [0, 1, 2, 6, 7, 8, 9, 62] [] #[true, true, true, true, true, false, false, false, false, false, false, false, false, false, false, false, false, false, false, false, false, false, false, false, false, false, false, false] [(0, .string (B l)), (1, .int .i64 (p : Int)), (2, .int .u8 (e.toNat : Int)), (6, .int .i64 0), (7, .int .i64 0), (8, .int .i64 (i : Int)), (9, .int .i64 (0 - (n : Int))), (62, .bool (decide ((i : Int) ≥ (l.length : Int))))] [] [] (by kernel_rfl) (by kernel_rfl) (by kernel_rfl) (by kernel_rfl) ROL_nil trivial ?_
              refine RVd_case (decide ((i : Int) ≥ (l.length : Int))) (fun bb => ⟨[(0, .string (B l)), (1, .int .i64 (p : Int)), (2, .int .u8 (e.toNat : Int)), (6, .int .i64 0), (7, .int .i64 0), (8, .int .i64 (i : Int)), (9, .int .i64 (0 - (n : Int))), (62, .bool bb)], []⟩) (by kernel_rfl) (fun h10 => ?_) (fun h10 => ?_)
              · skip
                replace h10 := of_decide_eq_true h10
                refine RVd_take (fuel' := 0) TOK [] [(5, 0), (6, 0), (7, 0), (8, 0), (9, 0), (10, 0), (11, 0), (12, 0), (13, 0), (14, 0), (15, 0), (16, 0), (17, 0), (18, 0), (19, 0), (20, 0), (21, 0), (22, 0), (23, 0), (24, 0), (25, 0), (26, 0), (27, 0)] [6, 7, 8, 9, 85] [] #[true, true, true, true, true, true, true, true, true, true, true, true, true, true, true, true, true, true, true, true, true, true, true, true, true, true, true, true] [(6, .int .i64 0), (7, .int .i64 0), (8, .int .i64 (i : Int)), (9, .int .i64 (0 - (n : Int))), (85, .bool true)] [] [] (by kernel_rfl) (by kernel_rfl) (by kernel_rfl) (by kernel_rfl) ROL_nil trivial ?_
                refine RVd_end (by kernel_rfl) ?_
                refine KE_then ?_
                refine VC_true (by kernel_rfl) ?_
                refine VC_go (hs := [0, 0]) TOK [6, 7, 8, 9] ⟨[(6, .int .i64 0), (7, .int .i64 (-1)), (8, .int .i64 (i : Int)), (9, .int .i64 (0 - (n : Int)))], []⟩ [] (by kernel_rfl) (by kernel_rfl) ?_
                refine VC_ret (ls := []) TOK [] 0 false [] [.int .i64 0, .int .i64 (-1)] [] ([]) rfl (by kernel_rfl) (by kernel_rfl) (fun w9 hx9 => ?_)
                show ∃ k r, (.tuple #[.int .i64 0, .int .i64 (-1)] : Value) = .tuple #[.int .i64 k, .int .i64 r] ∧ NumR l p e k r
                exact ⟨0, -1, rfl, num_no2 hJ (by unfold Stops; simp only [Dig]; omega) he (x := 0 - (n : Int)) (by simp only [signed, if_true, Bool.false_eq_true, if_false] <;> omega) (by first | exact .inl (by omega) | exact .inr (.inl (by assumption)) | exact .inr (.inr (.inl (by omega))) | exact .inr (.inr (.inr (.inl (by omega)))) | exact .inr (.inr (.inr (.inr (by assumption)))))⟩
              · skip
                replace h10 := of_decide_eq_false h10
                refine RVd_take (fuel' := 16) TOK [] [(5, 0), (6, 0), (7, 0), (8, 0), (9, 0), (10, 0), (11, 0)] [0, 1, 6, 7, 8, 9, 69] [] #[true, true, true, true, true, true, true, true, true, true, true, true, false, false, false, false, false, false, false, false, false, false, false, false, false, false, false, false] [(0, .string (B l)), (1, .int .i64 (p : Int)), (6, .int .i64 0), (7, .int .i64 0), (8, .int .i64 (i : Int)), (9, .int .i64 (0 - (n : Int))), (69, .bool (((l.getD i 0).toNat : Int) != (e.toNat : Int)))] [] [.lt (i : Int) l.length] (by kernel_rfl) (by kernel_rfl) (by kernel_rfl) (by kernel_rfl) ROL_nil (by simp only [Conds, Cond.holds, and_true]; first | omega | (have hle := hJ.le; omega)) ?_
                refine RVd_case (((l.getD i 0).toNat : Int) != (e.toNat : Int)) (fun bb => ⟨[(0, .string (B l)), (1, .int .i64 (p : Int)), (6, .int .i64 0), (7, .int .i64 0), (8, .int .i64 (i : Int)), (9, .int .i64 (0 - (n : Int))), (69, .bool bb)], []⟩) (by kernel_rfl) (fun h11 => ?_) (fun h11 => ?_)
                · skip
                  replace h11 := bne_iff_ne.1 h11
                  refine RVd_take (fuel' := 0) TOK [] [(12, 0), (13, 0), (14, 0), (15, 0), (16, 0), (17, 0), (18, 0), (19, 0), (20, 0), (21, 0), (22, 0), (23, 0), (24, 0), (25, 0), (26, 0), (27, 0)] [6, 7, 8, 9, 85] [] #[true, true, true, true, true, true, true, true, true, true, true, true, true, true, true, true, true, true, true, true, true, true, true, true, true, true, true, true] [(6, .int .i64 0), (7, .int .i64 0), (8, .int .i64 (i : Int)), (9, .int .i64 (0 - (n : Int))), (85, .bool true)] [] [] (by kernel_rfl) (by kernel_rfl) (by kernel_rfl) (by kernel_rfl) ROL_nil trivial ?_
                  refine RVd_end (by kernel_rfl) ?_
                  refine KE_then ?_
                  refine VC_true (by kernel_rfl) ?_
                  refine VC_go (hs := [0, 0]) TOK [6, 7, 8, 9] ⟨[(6, .int .i64 0), (7, .int .i64 (-1)), (8, .int .i64 (i : Int)), (9, .int .i64 (0 - (n : Int)))], []⟩ [] (by kernel_rfl) (by kernel_rfl) ?_
                  refine VC_ret (ls := []) TOK [] 0 false [] [.int .i64 0, .int .i64 (-1)] [] ([]) rfl (by kernel_rfl) (by kernel_rfl) (fun w9 hx9 => ?_)
                  show ∃ k r, (.tuple #[.int .i64 0, .int .i64 (-1)] : Value) = .tuple #[.int .i64 k, .int .i64 r] ∧ NumR l p e k r
                  exact ⟨0, -1, rfl, num_no2 hJ (by unfold Stops; simp only [Dig]; omega) he (x := 0 - (n : Int)) (by simp only [signed, if_true, Bool.false_eq_true, if_false] <;> omega) (by first | exact .inl (by omega) | exact .inr (.inl (by assumption)) | exact .inr (.inr (.inl (by omega))) | exact .inr (.inr (.inr (.inl (by omega)))) | exact .inr (.inr (.inr (.inr (by assumption)))))⟩
                · skip
                  replace h11 : ((l.getD i 0).toNat : Int) = (e.toNat : Int) := by simpa using h11
                  refine RVd_take (fuel' := 12) TOK [] [(12, 0), (13, 0), (14, 0), (15, 0)] [0, 1, 6, 7, 8, 9, 73] [] #[true, true, true, true, true, true, true, true, true, true, true, true, true, true, true, true, false, false, false, false, false, false, false, false, false, false, false, false] [(0, .string (B l)), (1, .int .i64 (p : Int)), (6, .int .i64 0), (7, .int .i64 0), (8, .int .i64 (i : Int)), (9, .int .i64 (0 - (n : Int))), (73, .bool (decide ((0 - (n : Int)) > 4611686018427387904)))] [] [] (by kernel_rfl) (by kernel_rfl) (by kernel_rfl) (by kernel_rfl) ROL_nil trivial ?_
                  refine RVd_case (decide ((0 - (n : Int)) > 4611686018427387904)) (fun bb => ⟨[(0, .string (B l)), (1, .int .i64 (p : Int)), (6, .int .i64 0), (7, .int .i64 0), (8, .int .i64 (i : Int)), (9, .int .i64 (0 - (n : Int))), (73, .bool bb)], []⟩) (by kernel_rfl) (fun h12 => ?_) (fun h12 => ?_)
                  · skip
                    replace h12 := of_decide_eq_true h12
                    refine RVd_take (fuel' := 0) TOK [] [(16, 0), (17, 0), (18, 0), (19, 0), (20, 0), (21, 0), (22, 0), (23, 0), (24, 0), (25, 0), (26, 0), (27, 0)] [6, 7, 8, 9, 85] [] #[true, true, true, true, true, true, true, true, true, true, true, true, true, true, true, true, true, true, true, true, true, true, true, true, true, true, true, true] [(6, .int .i64 0), (7, .int .i64 0), (8, .int .i64 (i : Int)), (9, .int .i64 (0 - (n : Int))), (85, .bool true)] [] [] (by kernel_rfl) (by kernel_rfl) (by kernel_rfl) (by kernel_rfl) ROL_nil trivial ?_
                    refine RVd_end (by kernel_rfl) ?_
                    refine KE_then ?_
                    refine VC_true (by kernel_rfl) ?_
                    refine VC_go (hs := [0, 0]) TOK [6, 7, 8, 9] ⟨[(6, .int .i64 0), (7, .int .i64 (-1)), (8, .int .i64 (i : Int)), (9, .int .i64 (0 - (n : Int)))], []⟩ [] (by kernel_rfl) (by kernel_rfl) ?_
                    refine VC_ret (ls := []) TOK [] 0 false [] [.int .i64 0, .int .i64 (-1)] [] ([]) rfl (by kernel_rfl) (by kernel_rfl) (fun w9 hx9 => ?_)
                    show ∃ k r, (.tuple #[.int .i64 0, .int .i64 (-1)] : Value) = .tuple #[.int .i64 k, .int .i64 r] ∧ NumR l p e k r
                    exact ⟨0, -1, rfl, num_no2 hJ (by unfold Stops; simp only [Dig]; omega) he (x := 0 - (n : Int)) (by simp only [signed, if_true, Bool.false_eq_true, if_false] <;> omega) (by first | exact .inl (by omega) | exact .inr (.inl (by assumption)) | exact .inr (.inr (.inl (by omega))) | exact .inr (.inr (.inr (.inl (by omega)))) | exact .inr (.inr (.inr (.inr (by assumption)))))⟩
                  · skip
                    replace h12 := of_decide_eq_false h12
                    refine RVd_take (fuel' := 8) TOK [] [(16, 0), (17, 0), (18, 0), (19, 0)] [0, 1, 6, 7, 8, 9, 77] [] #[true, true, true, true, true, true, true, true, true, true, true, true, true, true, true, true, true, true, true, true, false, false, false, false, false, false, false, false] [(0, .string (B l)), (1, .int .i64 (p : Int)), (6, .int .i64 0), (7, .int .i64 0), (8, .int .i64 (i : Int)), (9, .int .i64 (0 - (n : Int))), (77, .bool (decide ((0 - (n : Int)) < (-4611686018427387904))))] [] [] (by kernel_rfl) (by kernel_rfl) (by kernel_rfl) (by kernel_rfl) ROL_nil trivial ?_
                    refine RVd_case (decide ((0 - (n : Int)) < (-4611686018427387904))) (fun bb => ⟨[(0, .string (B l)), (1, .int .i64 (p : Int)), (6, .int .i64 0), (7, .int .i64 0), (8, .int .i64 (i : Int)), (9, .int .i64 (0 - (n : Int))), (77, .bool bb)], []⟩) (by kernel_rfl) (fun h13 => ?_) (fun h13 => ?_)
                    · skip
                      replace h13 := of_decide_eq_true h13
                      refine RVd_take (fuel' := 0) TOK [] [(20, 0), (21, 0), (22, 0), (23, 0), (24, 0), (25, 0), (26, 0), (27, 0)] [6, 7, 8, 9, 85] [] #[true, true, true, true, true, true, true, true, true, true, true, true, true, true, true, true, true, true, true, true, true, true, true, true, true, true, true, true] [(6, .int .i64 0), (7, .int .i64 0), (8, .int .i64 (i : Int)), (9, .int .i64 (0 - (n : Int))), (85, .bool true)] [] [] (by kernel_rfl) (by kernel_rfl) (by kernel_rfl) (by kernel_rfl) ROL_nil trivial ?_
                      refine RVd_end (by kernel_rfl) ?_
                      refine KE_then ?_
                      refine VC_true (by kernel_rfl) ?_
                      refine VC_go (hs := [0, 0]) TOK [6, 7, 8, 9] ⟨[(6, .int .i64 0), (7, .int .i64 (-1)), (8, .int .i64 (i : Int)), (9, .int .i64 (0 - (n : Int)))], []⟩ [] (by kernel_rfl) (by kernel_rfl) ?_
                      refine VC_ret (ls := []) TOK [] 0 false [] [.int .i64 0, .int .i64 (-1)] [] ([]) rfl (by kernel_rfl) (by kernel_rfl) (fun w9 hx9 => ?_)
                      show ∃ k r, (.tuple #[.int .i64 0, .int .i64 (-1)] : Value) = .tuple #[.int .i64 k, .int .i64 r] ∧ NumR l p e k r
                      exact ⟨0, -1, rfl, num_no2 hJ (by unfold Stops; simp only [Dig]; omega) he (x := 0 - (n : Int)) (by simp only [signed, if_true, Bool.false_eq_true, if_false] <;> omega) (by first | exact .inl (by omega) | exact .inr (.inl (by assumption)) | exact .inr (.inr (.inl (by omega))) | exact .inr (.inr (.inr (.inl (by omega)))) | exact .inr (.inr (.inr (.inr (by assumption)))))⟩
                    · skip
                      replace h13 := of_decide_eq_false h13
                      refine RVd_take (fuel' := 3) TOK [] [(20, 0), (22, 0), (23, 0), (24, 0), (25, 0)] [6, 7, 8, 9, 77, 78, 83] [] #[true, true, true, true, true, true, true, true, true, true, true, true, true, true, true, true, true, true, true, true, true, false, true, true, true, true, false, false] [(6, .int .i64 0), (7, .int .i64 0), (8, .int .i64 (i : Int)), (9, .int .i64 (0 - (n : Int))), (77, .bool false), (78, .int .i64 (0 - (n : Int))), (83, .string ((B l).extract p i))] [] [.le (i : Int) l.length, .le (p : Int) i] (by kernel_rfl) (by kernel_rfl) (by kernel_rfl) (by kernel_rfl) ROL_nil (by simp only [Conds, Cond.holds, and_true]; first | omega | (have hle := hJ.le; omega)) ?_
                      refine RVd_st ⟨[(6, .int .i64 0), (7, .int .i64 0), (8, .int .i64 (i : Int)), (9, .int .i64 (0 - (n : Int))), (77, .bool false), (78, .int .i64 (0 - (n : Int))), (83, .string (B ((l.take i).drop p)))], []⟩ (by rw [B_ext l p i]) ?_
                      refine RVd_call (fuel := 2) 21 [] #[true, true, true, true, true, true, true, true, true, true, true, true, true, true, true, true, true, true, true, true, true, true, true, true, true, true, false, false] (f := 27) (vs := [.int .i64 (0 - (n : Int))]) (dst := (some 79)) (by kernel_rfl) (by kernel_rfl) (by kernel_rfl) E27 (by kernel_rfl) (fun wa hxe hp => f27 (0 - (n : Int)) _ wa hp (by unfold InR; omega)) ?_
                      rintro S14 w15 v16 _ hx17 rfl
                      refine RVd_take (fuel' := 0) TOK [] [(26, 0), (27, 0)] [6, 7, 8, 9, 85] [] #[true, true, true, true, true, true, true, true, true, true, true, true, true, true, true, true, true, true, true, true, true, true, true, true, true, true, true, true] [(6, .int .i64 0), (7, .int .i64 0), (8, .int .i64 (i : Int)), (9, .int .i64 (0 - (n : Int))), (85, .bool (!((B (Lib.itoa (0 - (n : Int)))).toList == (B ((l.take i).drop p)).toList)))] [] [] (by kernel_rfl) (by kernel_rfl) (by kernel_rfl) (by kernel_rfl) ROL_nil trivial ?_
                      refine RVd_end (by kernel_rfl) ?_
                      refine KE_then ?_
                      refine VC_cond (!((B (Lib.itoa (0 - (n : Int)))).toList == (B ((l.take i).drop p)).toList)) (by kernel_rfl) (fun h18 => ?_) (fun h18 => ?_)
                      · skip
                        have h18 : ((B (Lib.itoa (0 - (n : Int)))).toList == (B ((l.take i).drop p)).toList) = false := by simpa using h18
                        replace h18 := B_ne h18
                        refine VC_go (hs := [0, 0]) TOK [6, 7, 8, 9] ⟨[(6, .int .i64 0), (7, .int .i64 (-1)), (8, .int .i64 (i : Int)), (9, .int .i64 (0 - (n : Int)))], []⟩ [] (by kernel_rfl) (by kernel_rfl) ?_
                        refine VC_ret (ls := []) TOK [] 0 false [] [.int .i64 0, .int .i64 (-1)] [] ([]) rfl (by kernel_rfl) (by kernel_rfl) (fun w9 hx9 => ?_)
                        show ∃ k r, (.tuple #[.int .i64 0, .int .i64 (-1)] : Value) = .tuple #[.int .i64 k, .int .i64 r] ∧ NumR l p e k r
                        exact ⟨0, -1, rfl, num_no2 hJ (by unfold Stops; simp only [Dig]; omega) he (x := 0 - (n : Int)) (by simp only [signed, if_true, Bool.false_eq_true, if_false] <;> omega) (by first | exact .inl (by omega) | exact .inr (.inl (by assumption)) | exact .inr (.inr (.inl (by omega))) | exact .inr (.inr (.inr (.inl (by omega)))) | exact .inr (.inr (.inr (.inr (by assumption)))))⟩
                      · skip
                        have h18 : ((B (Lib.itoa (0 - (n : Int)))).toList == (B ((l.take i).drop p)).toList) = true := by simpa using h18
                        replace h18 := B_eq h18
                        refine VC_skip ?_
                        refine KE_then ?_
                        refine VC_seq ?_
                        refine VC_region 5 rfl ?_
                        refine RV_go (hs := [0, 0, 0]) (c' := 2) (k' := 3) TOK [6, 7, 86, 88] ⟨[(6, .int .i64 0), (7, .int .i64 0), (86, .int .i64 (0 - (n : Int))), (88, .int .i64 (IntKind.i64.wrap ((i : Int) + 1)))], []⟩ [] (by kernel_rfl) (by kernel_rfl) ?_
                        refine RV_st ⟨[(6, .int .i64 0), (7, .int .i64 0), (86, .int .i64 (0 - (n : Int))), (88, .int .i64 ((i : Int) + 1))], []⟩ (by rw [wrap_id (x := (i : Int) + 1) (by unfold InR; first | omega | (have hu := UInt8.toNat_lt (l.getD i 0); omega))]) ?_
                        refine RV_go (hs := [0, 0]) (c' := 0) (k' := 5) TOK [6, 7] ⟨[(6, .int .i64 (0 - (n : Int))), (7, .int .i64 ((i : Int) + 1))], []⟩ [] (by kernel_rfl) (by kernel_rfl) ?_
                        refine RV_end ?_
                        refine KE_then ?_
                        refine VC_ret (ls := []) TOK [] 0 false [] [.int .i64 (0 - (n : Int)), .int .i64 ((i : Int) + 1)] [] ([]) rfl (by kernel_rfl) (by kernel_rfl) (fun w9 hx9 => ?_)
                        show ∃ k r, (.tuple #[.int .i64 (0 - (n : Int)), .int .i64 ((i : Int) + 1)] : Value) = .tuple #[.int .i64 k, .int .i64 r] ∧ NumR l p e k r
                        exact ⟨_, _, rfl, num_yes2 hJ (x := 0 - (n : Int)) (by simp only [signed, if_true, Bool.false_eq_true, if_false] <;> omega) (by omega) (by assumption) (by omega) (by omega) (by assumption) (by first | rfl | omega)⟩
          · skip
            replace h8 := of_decide_eq_false h8
            refine RV_go (hs := [0, 0, 0]) (c' := 0) (k' := 20) TOK [0, 1, 2, 6, 7, 8, 9, 10, 44] ⟨[(0, .string (B l)), (1, .int .i64 (p : Int)), (2, .int .u8 (e.toNat : Int)), (6, .int .i64 0), (7, .int .i64 0), (8, .int .i64 (i : Int)), (9, .int .i64 (n : Int)), (10, .bool true), (44, .bool false)], []⟩ [] (by kernel_rfl) (by kernel_rfl) ?_
            refine RV_end ?_
            refine KE_then ?_
            refine VC_false (by kernel_rfl) ?_
            refine VC_exit ?_
            refine KE_exit_then ?_
            refine KE_exit_then ?_
            refine KE_exit_here ?_
            refine KE_then ?_
            refine VC_seq ?_
            refine VC_go (hs := [0]) TOK [0, 1, 2, 6, 7, 8, 9, 55] ⟨[(0, .string (B l)), (1, .int .i64 (p : Int)), (2, .int .u8 (e.toNat : Int)), (6, .int .i64 0), (7, .int .i64 0), (8, .int .i64 (i : Int)), (9, .int .i64 (n : Int)), (55, .bool true)], []⟩ [] (by kernel_rfl) (by kernel_rfl) ?_
            refine VC_true (by kernel_rfl) ?_
            refine VC_region 3 rfl ?_
            refine RV_go (hs := [0, 0]) (c' := 1) (k' := 2) TOK [0, 1, 2, 6, 7, 8, 9, 57] ⟨[(0, .string (B l)), (1, .int .i64 (p : Int)), (2, .int .u8 (e.toNat : Int)), (6, .int .i64 0), (7, .int .i64 0), (8, .int .i64 (i : Int)), (9, .int .i64 (n : Int)), (57, .int .i64 (IntKind.i64.wrap (0 - (n : Int))))], []⟩ [] (by kernel_rfl) (by kernel_rfl) ?_
            refine RV_st ⟨[(0, .string (B l)), (1, .int .i64 (p : Int)), (2, .int .u8 (e.toNat : Int)), (6, .int .i64 0), (7, .int .i64 0), (8, .int .i64 (i : Int)), (9, .int .i64 (n : Int)), (57, .int .i64 (0 - (n : Int)))], []⟩ (by rw [wrap_id (x := 0 - (n : Int)) (by unfold InR; first | omega | (have hu := UInt8.toNat_lt (l.getD i 0); omega))]) ?_
            refine RV_go (hs := [0]) (c' := 0) (k' := 3) TOK [0, 1, 2, 6, 7, 8, 9] ⟨[(0, .string (B l)), (1, .int .i64 (p : Int)), (2, .int .u8 (e.toNat : Int)), (6, .int .i64 0), (7, .int .i64 0), (8, .int .i64 (i : Int)), (9, .int .i64 (0 - (n : Int)))], []⟩ [] (by kernel_rfl) (by kernel_rfl) ?_
            refine RV_end ?_
            refine KE_then ?_
            refine VC_seq ?_
            refine VC_seq ?_
            refine VC_draw MIX [] 28 rfl ?_
            refine RVd_take (fuel' := 23) TOK [] [(0, 0), (1, 0), (2, 0), (3, 0), (4, 0)] [0, 1, 2, 6, 7, 8, 9, 62] [] #[true, true, true, true, true, false, false, false, false, false, false, false, false, false, false, false, false, false, false, false, false, false, false, false, false, false, false, false] [(0, .string (B l)), (1, .int .i64 (p : Int)), (2, .int .u8 (e.toNat : Int)), (6, .int .i64 0), (7, .int .i64 0), (8, .int .i64 (i : Int)), (9, .int .i64 (0 - (n : Int))), (62, .bool (decide ((i : Int) ≥ (l.length : Int))))] [] [] (by kernel_rfl) (by kernel_rfl) (by kernel_rfl) (by kernel_rfl) ROL_nil trivial ?_
            refine RVd_case (decide ((i : Int) ≥ (l.length : Int))) (fun bb => ⟨[(0, .string (B l)), (1, .int .i64 (p : Int)), (2, .int .u8 (e.toNat : Int)), (6, .int .i64 0), (7, .int .i64 0), (8, .int .i64 (i : Int)), (9, .int .i64 (0 - (n : Int))), (62, .bool bb)], []⟩) (by kernel_rfl) (fun h19 => ?_) (fun h19 => ?_)
            · skip
              replace h19 := of_decide_eq_true h19
              refine RVd_take (fuel' := 0) TOK [] [(5, 0), (6, 0), (7, 0), (8, 0), (9, 0), (10, 0), (11, 0), (12, 0), (13, 0), (14, 0), (15, 0), (16, 0), (17, 0), (18, 0), (19, 0), (20, 0), (21, 0), (22, 0), (23, 0), (24, 0), (25, 0), (26, 0), (27, 0)] [6, 7, 8, 9, 85] [] #[true, true, true, true, true, true, true, true, true, true, true, true, true, true, true, true, true, true, true, true, true, true, true, true, true, true, true, true] [(6, .int .i64 0), (7, .int .i64 0), (8, .int .i64 (i : Int)), (9, .int .i64 (0 - (n : Int))), (85, .bool true)] [] [] (by kernel_rfl) (by kernel_rfl) (by kernel_rfl) (by kernel_rfl) ROL_nil trivial ?_
              refine RVd_end (by kernel_rfl) ?_
              refine KE_then ?_
              refine VC_true (by kernel_rfl) ?_
              refine VC_go (hs := [0, 0]) TOK [6, 7, 8, 9] ⟨[(6, .int .i64 0), (7, .int .i64 (-1)), (8, .int .i64 (i : Int)), (9, .int .i64 (0 - (n : Int)))], []⟩ [] (by kernel_rfl) (by kernel_rfl) ?_
              refine VC_ret (ls := []) TOK [] 0 false [] [.int .i64 0, .int .i64 (-1)] [] ([]) rfl (by kernel_rfl) (by kernel_rfl) (fun w9 hx9 => ?_)
              show ∃ k r, (.tuple #[.int .i64 0, .int .i64 (-1)] : Value) = .tuple #[.int .i64 k, .int .i64 r] ∧ NumR l p e k r
              exact ⟨0, -1, rfl, num_no2 hJ (by unfold Stops; simp only [Dig]; omega) he (x := 0 - (n : Int)) (by simp only [signed, if_true, Bool.false_eq_true, if_false] <;> omega) (by first | exact .inl (by omega) | exact .inr (.inl (by assumption)) | exact .inr (.inr (.inl (by omega))) | exact .inr (.inr (.inr (.inl (by omega)))) | exact .inr (.inr (.inr (.inr (by assumption)))))⟩
            · skip
              replace h19 := of_decide_eq_false h19
              refine RVd_take (fuel' := 16) TOK [] [(5, 0), (6, 0), (7, 0), (8, 0), (9, 0), (10, 0), (11, 0)] [0, 1, 6, 7, 8, 9, 69] [] #[true, true, true, true, true, true, true, true, true, true, true, true, false, false, false, false, false, false, false, false, false, false, false, false, false, false, false, false] [(0, .string (B l)), (1, .int .i64 (p : Int)), (6, .int .i64 0), (7, .int .i64 0), (8, .int .i64 (i : Int)), (9, .int .i64 (0 - (n : Int))), (69, .bool (((l.getD i 0).toNat : Int) != (e.toNat : Int)))] [] [.lt (i : Int) l.length] (by kernel_rfl) (by kernel_rfl) (by kernel_rfl) (by kernel_rfl) ROL_nil (by simp only [Conds, Cond.holds, and_true]; first | omega | (have hle := hJ.le; omega)) ?_
              refine RVd_case (((l.getD i 0).toNat : Int) != (e.toNat : Int)) (fun bb => ⟨[(0, .string (B l)), (1, .int .i64 (p : Int)), (6, .int .i64 0), (7, .int .i64 0), (8, .int .i64 (i : Int)), (9, .int .i64 (0 - (n : Int))), (69, .bool bb)], []⟩) (by kernel_rfl) (fun h20 => ?_) (fun h20 => ?_)
              · skip
                replace h20 := bne_iff_ne.1 h20
                refine RVd_take (fuel' := 0) TOK [] [(12, 0), (13, 0), (14, 0), (15, 0), (16, 0), (17, 0), (18, 0), (19, 0), (20, 0), (21, 0), (22, 0), (23, 0), (24, 0), (25, 0), (26, 0), (27, 0)] [6, 7, 8, 9, 85] [] #[true, true, true, true, true, true, true, true, true, true, true, true, true, true, true, true, true, true, true, true, true, true, true, true, true, true, true, true] [(6, .int .i64 0), (7, .int .i64 0), (8, .int .i64 (i : Int)), (9, .int .i64 (0 - (n : Int))), (85, .bool true)] [] [] (by kernel_rfl) (by kernel_rfl) (by kernel_rfl) (by kernel_rfl) ROL_nil trivial ?_
                refine RVd_end (by kernel_rfl) ?_
                refine KE_then ?_
                refine VC_true (by kernel_rfl) ?_
                refine VC_go (hs := [0, 0]) TOK [6, 7, 8, 9] ⟨[(6, .int .i64 0), (7, .int .i64 (-1)), (8, .int .i64 (i : Int)), (9, .int .i64 (0 - (n : Int)))], []⟩ [] (by kernel_rfl) (by kernel_rfl) ?_
                refine VC_ret (ls := []) TOK [] 0 false [] [.int .i64 0, .int .i64 (-1)] [] ([]) rfl (by kernel_rfl) (by kernel_rfl) (fun w9 hx9 => ?_)
                show ∃ k r, (.tuple #[.int .i64 0, .int .i64 (-1)] : Value) = .tuple #[.int .i64 k, .int .i64 r] ∧ NumR l p e k r
                exact ⟨0, -1, rfl, num_no2 hJ (by unfold Stops; simp only [Dig]; omega) he (x := 0 - (n : Int)) (by simp only [signed, if_true, Bool.false_eq_true, if_false] <;> omega) (by first | exact .inl (by omega) | exact .inr (.inl (by assumption)) | exact .inr (.inr (.inl (by omega))) | exact .inr (.inr (.inr (.inl (by omega)))) | exact .inr (.inr (.inr (.inr (by assumption)))))⟩
              · skip
                replace h20 : ((l.getD i 0).toNat : Int) = (e.toNat : Int) := by simpa using h20
                refine RVd_take (fuel' := 12) TOK [] [(12, 0), (13, 0), (14, 0), (15, 0)] [0, 1, 6, 7, 8, 9, 73] [] #[true, true, true, true, true, true, true, true, true, true, true, true, true, true, true, true, false, false, false, false, false, false, false, false, false, false, false, false] [(0, .string (B l)), (1, .int .i64 (p : Int)), (6, .int .i64 0), (7, .int .i64 0), (8, .int .i64 (i : Int)), (9, .int .i64 (0 - (n : Int))), (73, .bool (decide ((0 - (n : Int)) > 4611686018427387904)))] [] [] (by kernel_rfl) (by kernel_rfl) (by kernel_rfl) (by kernel_rfl) ROL_nil trivial ?_
                refine RVd_case (decide ((0 - (n : Int)) > 4611686018427387904)) (fun bb => ⟨[(0, .string (B l)), (1, .int .i64 (p : Int)), (6, .int .i64 0), (7, .int .i64 0), (8, .int .i64 (i : Int)), (9, .int .i64 (0 - (n : Int))), (73, .bool bb)], []⟩) (by kernel_rfl) (fun h21 => ?_) (fun h21 => ?_)
                · skip
                  replace h21 := of_decide_eq_true h21
                  refine RVd_take (fuel' := 0) TOK [] [(16, 0), (17, 0), (18, 0), (19, 0), (20, 0), (21, 0), (22, 0), (23, 0), (24, 0), (25, 0), (26, 0), (27, 0)] [6, 7, 8, 9, 85] [] #[true, true, true, true, true, true, true, true, true, true, true, true, true, true, true, true, true, true, true, true, true, true, true, true, true, true, true, true] [(6, .int .i64 0), (7, .int .i64 0), (8, .int .i64 (i : Int)), (9, .int .i64 (0 - (n : Int))), (85, .bool true)] [] [] (by kernel_rfl) (by kernel_rfl) (by kernel_rfl) (by kernel_rfl) ROL_nil trivial ?_
                  refine RVd_end (by kernel_rfl) ?_
                  refine KE_then ?_
                  refine VC_true (by kernel_rfl) ?_
                  refine VC_go (hs := [0, 0]) TOK [6, 7, 8, 9] ⟨[(6, .int .i64 0), (7, .int .i64 (-1)), (8, .int .i64 (i : Int)), (9, .int .i64 (0 - (n : Int)))], []⟩ [] (by kernel_rfl) (by kernel_rfl) ?_
                  refine VC_ret (ls := []) TOK [] 0 false [] [.int .i64 0, .int .i64 (-1)] [] ([]) rfl (by kernel_rfl) (by kernel_rfl) (fun w9 hx9 => ?_)
                  show ∃ k r, (.tuple #[.int .i64 0, .int .i64 (-1)] : Value) = .tuple #[.int .i64 k, .int .i64 r] ∧ NumR l p e k r
                  exact ⟨0, -1, rfl, num_no2 hJ (by unfold Stops; simp only [Dig]; omega) he (x := 0 - (n : Int)) (by simp only [signed, if_true, Bool.false_eq_true, if_false] <;> omega) (by first | exact .inl (by omega) | exact .inr (.inl (by assumption)) | exact .inr (.inr (.inl (by omega))) | exact .inr (.inr (.inr (.inl (by omega)))) | exact .inr (.inr (.inr (.inr (by assumption)))))⟩
                · skip
                  replace h21 := of_decide_eq_false h21
                  refine RVd_take (fuel' := 8) TOK [] [(16, 0), (17, 0), (18, 0), (19, 0)] [0, 1, 6, 7, 8, 9, 77] [] #[true, true, true, true, true, true, true, true, true, true, true, true, true, true, true, true, true, true, true, true, false, false, false, false, false, false, false, false] [(0, .string (B l)), (1, .int .i64 (p : Int)), (6, .int .i64 0), (7, .int .i64 0), (8, .int .i64 (i : Int)), (9, .int .i64 (0 - (n : Int))), (77, .bool (decide ((0 - (n : Int)) < (-4611686018427387904))))] [] [] (by kernel_rfl) (by kernel_rfl) (by kernel_rfl) (by kernel_rfl) ROL_nil trivial ?_
                  refine RVd_case (decide ((0 - (n : Int)) < (-4611686018427387904))) (fun bb => ⟨[(0, .string (B l)), (1, .int .i64 (p : Int)), (6, .int .i64 0), (7, .int .i64 0), (8, .int .i64 (i : Int)), (9, .int .i64 (0 - (n : Int))), (77, .bool bb)], []⟩) (by kernel_rfl) (fun h22 => ?_) (fun h22 => ?_)
                  · skip
                    replace h22 := of_decide_eq_true h22
                    refine RVd_take (fuel' := 0) TOK [] [(20, 0), (21, 0), (22, 0), (23, 0), (24, 0), (25, 0), (26, 0), (27, 0)] [6, 7, 8, 9, 85] [] #[true, true, true, true, true, true, true, true, true, true, true, true, true, true, true, true, true, true, true, true, true, true, true, true, true, true, true, true] [(6, .int .i64 0), (7, .int .i64 0), (8, .int .i64 (i : Int)), (9, .int .i64 (0 - (n : Int))), (85, .bool true)] [] [] (by kernel_rfl) (by kernel_rfl) (by kernel_rfl) (by kernel_rfl) ROL_nil trivial ?_
                    refine RVd_end (by kernel_rfl) ?_
                    refine KE_then ?_
                    refine VC_true (by kernel_rfl) ?_
                    refine VC_go (hs := [0, 0]) TOK [6, 7, 8, 9] ⟨[(6, .int .i64 0), (7, .int .i64 (-1)), (8, .int .i64 (i : Int)), (9, .int .i64 (0 - (n : Int)))], []⟩ [] (by kernel_rfl) (by kernel_rfl) ?_
                    refine VC_ret (ls := []) TOK [] 0 false [] [.int .i64 0, .int .i64 (-1)] [] ([]) rfl (by kernel_rfl) (by kernel_rfl) (fun w9 hx9 => ?_)
                    show ∃ k r, (.tuple #[.int .i64 0, .int .i64 (-1)] : Value) = .tuple #[.int .i64 k, .int .i64 r] ∧ NumR l p e k r
                    exact ⟨0, -1, rfl, num_no2 hJ (by unfold Stops; simp only [Dig]; omega) he (x := 0 - (n : Int)) (by simp only [signed, if_true, Bool.false_eq_true, if_false] <;> omega) (by first | exact .inl (by omega) | exact .inr (.inl (by assumption)) | exact .inr (.inr (.inl (by omega))) | exact .inr (.inr (.inr (.inl (by omega)))) | exact .inr (.inr (.inr (.inr (by assumption)))))⟩
                  · skip
                    replace h22 := of_decide_eq_false h22
                    refine RVd_take (fuel' := 3) TOK [] [(20, 0), (22, 0), (23, 0), (24, 0), (25, 0)] [6, 7, 8, 9, 77, 78, 83] [] #[true, true, true, true, true, true, true, true, true, true, true, true, true, true, true, true, true, true, true, true, true, false, true, true, true, true, false, false] [(6, .int .i64 0), (7, .int .i64 0), (8, .int .i64 (i : Int)), (9, .int .i64 (0 - (n : Int))), (77, .bool false), (78, .int .i64 (0 - (n : Int))), (83, .string ((B l).extract p i))] [] [.le (i : Int) l.length, .le (p : Int) i] (by kernel_rfl) (by kernel_rfl) (by kernel_rfl) (by kernel_rfl) ROL_nil (by simp only [Conds, Cond.holds, and_true]; first | omega | (have hle := hJ.le; omega)) ?_
                    refine RVd_st ⟨[(6, .int .i64 0), (7, .int .i64 0), (8, .int .i64 (i : Int)), (9, .int .i64 (0 - (n : Int))), (77, .bool false), (78, .int .i64 (0 - (n : Int))), (83, .string (B ((l.take i).drop p)))], []⟩ (by rw [B_ext l p i]) ?_
                    refine RVd_call (fuel := 2) 21 [] #[true, true, true, true, true, true, true, true, true, true, true, true, true, true, true, true, true, true, true, true, true, true, true, true, true, true, false, false] (f := 27) (vs := [.int .i64 (0 - (n : Int))]) (dst := (some 79)) (by kernel_rfl) (by kernel_rfl) (by kernel_rfl) E27 (by kernel_rfl) (fun wa hxe hp => f27 (0 - (n : Int)) _ wa hp (by unfold InR; omega)) ?_
                    rintro S23 w24 v25 _ hx26 rfl
                    refine RVd_take (fuel' := 0) TOK [] [(26, 0), (27, 0)] [6, 7, 8, 9, 85] [] #[true, true, true, true, true, true, true, true, true, true, true, true, true, true, true, true, true, true, true, true, true, true, true, true, true, true, true, true] [(6, .int .i64 0), (7, .int .i64 0), (8, .int .i64 (i : Int)), (9, .int .i64 (0 - (n : Int))), (85, .bool (!((B (Lib.itoa (0 - (n : Int)))).toList == (B ((l.take i).drop p)).toList)))] [] [] (by kernel_rfl) (by kernel_rfl) (by kernel_rfl) (by kernel_rfl) ROL_nil trivial ?_
                    refine RVd_end (by kernel_rfl) ?_
                    refine KE_then ?_
                    refine VC_cond (!((B (Lib.itoa (0 - (n : Int)))).toList == (B ((l.take i).drop p)).toList)) (by kernel_rfl) (fun h27 => ?_) (fun h27 => ?_)
                    · skip
                      have h27 : ((B (Lib.itoa (0 - (n : Int)))).toList == (B ((l.take i).drop p)).toList) = false := by simpa using h27
                      replace h27 := B_ne h27
                      refine VC_go (hs := [0, 0]) TOK [6, 7, 8, 9] ⟨[(6, .int .i64 0), (7, .int .i64 (-1)), (8, .int .i64 (i : Int)), (9, .int .i64 (0 - (n : Int)))], []⟩ [] (by kernel_rfl) (by kernel_rfl) ?_
                      refine VC_ret (ls := []) TOK [] 0 false [] [.int .i64 0, .int .i64 (-1)] [] ([]) rfl (by kernel_rfl) (by kernel_rfl) (fun w9 hx9 => ?_)
                      show ∃ k r, (.tuple #[.int .i64 0, .int .i64 (-1)] : Value) = .tuple #[.int .i64 k, .int .i64 r] ∧ NumR l p e k r
                      exact ⟨0, -1, rfl, num_no2 hJ (by unfold Stops; simp only [Dig]; omega) he (x := 0 - (n : Int)) (by simp only [signed, if_true, Bool.false_eq_true, if_false] <;> omega) (by first | exact .inl (by omega) | exact .inr (.inl (by assumption)) | exact .inr (.inr (.inl (by omega))) | exact .inr (.inr (.inr (.inl (by omega)))) | exact .inr (.inr (.inr (.inr (by assumption)))))⟩
                    · skip
                      have h27 : ((B (Lib.itoa (0 - (n : Int)))).toList == (B ((l.take i).drop p)).toList) = true := by simpa using h27
                      replace h27 := B_eq h27
                      refine VC_skip ?_
                      refine KE_then ?_
                      refine VC_seq ?_
                      refine VC_region 5 rfl ?_
                      refine RV_go (hs := [0, 0, 0]) (c' := 2) (k' := 3) TOK [6, 7, 86, 88] ⟨[(6, .int .i64 0), (7, .int .i64 0), (86, .int .i64 (0 - (n : Int))), (88, .int .i64 (IntKind.i64.wrap ((i : Int) + 1)))], []⟩ [] (by kernel_rfl) (by kernel_rfl) ?_
                      refine RV_st ⟨[(6, .int .i64 0), (7, .int .i64 0), (86, .int .i64 (0 - (n : Int))), (88, .int .i64 ((i : Int) + 1))], []⟩ (by rw [wrap_id (x := (i : Int) + 1) (by unfold InR; first | omega | (have hu := UInt8.toNat_lt (l.getD i 0); omega))]) ?_
                      refine RV_go (hs := [0, 0]) (c' := 0) (k' := 5) TOK [6, 7] ⟨[(6, .int .i64 (0 - (n : Int))), (7, .int .i64 ((i : Int) + 1))], []⟩ [] (by kernel_rfl) (by kernel_rfl) ?_
                      refine RV_end ?_
                      refine KE_then ?_
                      refine VC_ret (ls := []) TOK [] 0 false [] [.int .i64 (0 - (n : Int)), .int .i64 ((i : Int) + 1)] [] ([]) rfl (by kernel_rfl) (by kernel_rfl) (fun w9 hx9 => ?_)
                      show ∃ k r, (.tuple #[.int .i64 (0 - (n : Int)), .int .i64 ((i : Int) + 1)] : Value) = .tuple #[.int .i64 k, .int .i64 r] ∧ NumR l p e k r
                      exact ⟨_, _, rfl, num_yes2 hJ (x := 0 - (n : Int)) (by simp only [signed, if_true, Bool.false_eq_true, if_false] <;> omega) (by omega) (by assumption) (by omega) (by omega) (by assumption) (by first | rfl | omega)⟩
        · skip
          replace h7 := of_decide_eq_false h7
          refine RV_go (hs := [0, 0, 0, 0, 0, 0, 0, 0, 0]) (c' := 0) (k' := 20) TOK [0, 1, 2, 6, 7, 8, 9, 10, 44] ⟨[(0, .string (B l)), (1, .int .i64 (p : Int)), (2, .int .u8 (e.toNat : Int)), (6, .int .i64 0), (7, .int .i64 0), (8, .int .i64 (i : Int)), (9, .int .i64 (n : Int)), (10, .bool true), (44, .bool false)], []⟩ [] (by kernel_rfl) (by kernel_rfl) ?_
          refine RV_end ?_
          refine KE_then ?_
          refine VC_false (by kernel_rfl) ?_
          refine VC_exit ?_
          refine KE_exit_then ?_
          refine KE_exit_then ?_
          refine KE_exit_here ?_
          refine KE_then ?_
          refine VC_seq ?_
          refine VC_go (hs := [0]) TOK [0, 1, 2, 6, 7, 8, 9, 55] ⟨[(0, .string (B l)), (1, .int .i64 (p : Int)), (2, .int .u8 (e.toNat : Int)), (6, .int .i64 0), (7, .int .i64 0), (8, .int .i64 (i : Int)), (9, .int .i64 (n : Int)), (55, .bool true)], []⟩ [] (by kernel_rfl) (by kernel_rfl) ?_
          refine VC_true (by kernel_rfl) ?_
          refine VC_region 3 rfl ?_
          refine RV_go (hs := [0, 0]) (c' := 1) (k' := 2) TOK [0, 1, 2, 6, 7, 8, 9, 57] ⟨[(0, .string (B l)), (1, .int .i64 (p : Int)), (2, .int .u8 (e.toNat : Int)), (6, .int .i64 0), (7, .int .i64 0), (8, .int .i64 (i : Int)), (9, .int .i64 (n : Int)), (57, .int .i64 (IntKind.i64.wrap (0 - (n : Int))))], []⟩ [] (by kernel_rfl) (by kernel_rfl) ?_
          refine RV_st ⟨[(0, .string (B l)), (1, .int .i64 (p : Int)), (2, .int .u8 (e.toNat : Int)), (6, .int .i64 0), (7, .int .i64 0), (8, .int .i64 (i : Int)), (9, .int .i64 (n : Int)), (57, .int .i64 (0 - (n : Int)))], []⟩ (by rw [wrap_id (x := 0 - (n : Int)) (by unfold InR; first | omega | (have hu := UInt8.toNat_lt (l.getD i 0); omega))]) ?_
          refine RV_go (hs := [0]) (c' := 0) (k' := 3) TOK [0, 1, 2, 6, 7, 8, 9] ⟨[(0, .string (B l)), (1, .int .i64 (p : Int)), (2, .int .u8 (e.toNat : Int)), (6, .int .i64 0), (7, .int .i64 0), (8, .int .i64 (i : Int)), (9, .int .i64 (0 - (n : Int)))], []⟩ [] (by kernel_rfl) (by kernel_rfl) ?_
          refine RV_end ?_
          refine KE_then ?_
          refine VC_seq ?_
          refine VC_seq ?_
          refine VC_draw MIX [] 28 rfl ?_
          refine RVd_take (fuel' := 23) TOK [] [(0, 0), (1, 0), (2, 0), (3, 0), (4, 0)] [0, 1, 2, 6, 7, 8, 9, 62] [] #[true, true, true, true, true, false, false, false, false, false, false, false, false, false, false, false, false, false, false, false, false, false, false, false, false, false, false, false] [(0, .string (B l)), (1, .int .i64 (p : Int)), (2, .int .u8 (e.toNat : Int)), (6, .int .i64 0), (7, .int .i64 0), (8, .int .i64 (i : Int)), (9, .int .i64 (0 - (n : Int))), (62, .bool (decide ((i : Int) ≥ (l.length : Int))))] [] [] (by kernel_rfl) (by kernel_rfl) (by kernel_rfl) (by kernel_rfl) ROL_nil trivial ?_
          refine RVd_case (decide ((i : Int) ≥ (l.length : Int))) (fun bb => ⟨[(0, .string (B l)), (1, .int .i64 (p : Int)), (2, .int .u8 (e.toNat : Int)), (6, .int .i64 0), (7, .int .i64 0), (8, .int .i64 (i : Int)), (9, .int .i64 (0 - (n : Int))), (62, .bool bb)], []⟩) (by kernel_rfl) (fun h28 => ?_) (fun h28 => ?_)
          · skip
            replace h28 := of_decide_eq_true h28
            refine RVd_take (fuel' := 0) TOK [] [(5, 0), (6, 0), (7, 0), (8, 0), (9, 0), (10, 0), (11, 0), (12, 0), (13, 0), (14, 0), (15, 0), (16, 0), (17, 0), (18, 0), (19, 0), (20, 0), (21, 0), (22, 0), (23, 0), (24, 0), (25, 0), (26, 0), (27, 0)] [6, 7, 8, 9, 85] [] #[true, true, true, true, true, true, true, true, true, true, true, true, true, true, true, true, true, true, true, true, true, true, true, true, true, true, true, true] [(6, .int .i64 0), (7, .int .i64 0), (8, .int .i64 (i : Int)), (9, .int .i64 (0 - (n : Int))), (85, .bool true)] [] [] (by kernel_rfl) (by kernel_rfl) (by kernel_rfl) (by kernel_rfl) ROL_nil trivial ?_
            refine RVd_end (by kernel_rfl) ?_
            refine KE_then ?_
            refine VC_true (by kernel_rfl) ?_
            refine VC_go (hs := [0, 0]) TOK [6, 7, 8, 9] ⟨[(6, .int .i64 0), (7, .int .i64 (-1)), (8, .int .i64 (i : Int)), (9, .int .i64 (0 - (n : Int)))], []⟩ [] (by kernel_rfl) (by kernel_rfl) ?_
            refine VC_ret (ls := []) TOK [] 0 false [] [.int .i64 0, .int .i64 (-1)] [] ([]) rfl (by kernel_rfl) (by kernel_rfl) (fun w9 hx9 => ?_)
            show ∃ k r, (.tuple #[.int .i64 0, .int .i64 (-1)] : Value) = .tuple #[.int .i64 k, .int .i64 r] ∧ NumR l p e k r
            exact ⟨0, -1, rfl, num_no2 hJ (by unfold Stops; simp only [Dig]; omega) he (x := 0 - (n : Int)) (by simp only [signed, if_true, Bool.false_eq_true, if_false] <;> omega) (by first | exact .inl (by omega) | exact .inr (.inl (by assumption)) | exact .inr (.inr (.inl (by omega))) | exact .inr (.inr (.inr (.inl (by omega)))) | exact .inr (.inr (.inr (.inr (by assumption)))))⟩
          · skip
            replace h28 := of_decide_eq_false h28
            refine RVd_take (fuel' := 16) TOK [] [(5, 0), (6, 0), (7, 0), (8, 0), (9, 0), (10, 0), (11, 0)] [0, 1, 6, 7, 8, 9, 69] [] #[true, true, true, true, true, true, true, true, true, true, true, true, false, false, false, false, false, false, false, false, false, false, false, false, false, false, false, false] [(0, .string (B l)), (1, .int .i64 (p : Int)), (6, .int .i64 0), (7, .int .i64 0), (8, .int .i64 (i : Int)), (9, .int .i64 (0 - (n : Int))), (69, .bool (((l.getD i 0).toNat : Int) != (e.toNat : Int)))] [] [.lt (i : Int) l.length] (by kernel_rfl) (by kernel_rfl) (by kernel_rfl) (by kernel_rfl) ROL_nil (by simp only [Conds, Cond.holds, and_true]; first | omega | (have hle := hJ.le; omega)) ?_
            refine RVd_case (((l.getD i 0).toNat : Int) != (e.toNat : Int)) (fun bb => ⟨[(0, .string (B l)), (1, .int .i64 (p : Int)), (6, .int .i64 0), (7, .int .i64 0), (8, .int .i64 (i : Int)), (9, .int .i64 (0 - (n : Int))), (69, .bool bb)], []⟩) (by kernel_rfl) (fun h29 => ?_) (fun h29 => ?_)
            · skip
              replace h29 := bne_iff_ne.1 h29
              refine RVd_take (fuel' := 0) TOK [] [(12, 0), (13, 0), (14, 0), (15, 0), (16, 0), (17, 0), (18, 0), (19, 0), (20, 0), (21, 0), (22, 0), (23, 0), (24, 0), (25, 0), (26, 0), (27, 0)] [6, 7, 8, 9, 85] [] #[true, true, true, true, true, true, true, true, true, true, true, true, true, true, true, true, true, true, true, true, true, true, true, true, true, true, true, true] [(6, .int .i64 0), (7, .int .i64 0), (8, .int .i64 (i : Int)), (9, .int .i64 (0 - (n : Int))), (85, .bool true)] [] [] (by kernel_rfl) (by kernel_rfl) (by kernel_rfl) (by kernel_rfl) ROL_nil trivial ?_
              refine RVd_end (by kernel_rfl) ?_
              refine KE_then ?_
              refine VC_true (by kernel_rfl) ?_
              refine VC_go (hs := [0, 0]) TOK [6, 7, 8, 9] ⟨[(6, .int .i64 0), (7, .int .i64 (-1)), (8, .int .i64 (i : Int)), (9, .int .i64 (0 - (n : Int)))], []⟩ [] (by kernel_rfl) (by kernel_rfl) ?_
              refine VC_ret (ls := []) TOK [] 0 false [] [.int .i64 0, .int .i64 (-1)] [] ([]) rfl (by kernel_rfl) (by kernel_rfl) (fun w9 hx9 => ?_)
              show ∃ k r, (.tuple #[.int .i64 0, .int .i64 (-1)] : Value) = .tuple #[.int .i64 k, .int .i64 r] ∧ NumR l p e k r
              exact ⟨0, -1, rfl, num_no2 hJ (by unfold Stops; simp only [Dig]; omega) he (x := 0 - (n : Int)) (by simp only [signed, if_true, Bool.false_eq_true, if_false] <;> omega) (by first | exact .inl (by omega) | exact .inr (.inl (by assumption)) | exact .inr (.inr (.inl (by omega))) | exact .inr (.inr (.inr (.inl (by omega)))) | exact .inr (.inr (.inr (.inr (by assumption)))))⟩
            · skip
              replace h29 : ((l.getD i 0).toNat : Int) = (e.toNat : Int) := by simpa using h29
              refine RVd_take (fuel' := 12) TOK [] [(12, 0), (13, 0), (14, 0), (15, 0)] [0, 1, 6, 7, 8, 9, 73] [] #[true, true, true, true, true, true, true, true, true, true, true, true, true, true, true, true, false, false, false, false, false, false, false, false, false, false, false, false] [(0, .string (B l)), (1, .int .i64 (p : Int)), (6, .int .i64 0), (7, .int .i64 0), (8, .int .i64 (i : Int)), (9, .int .i64 (0 - (n : Int))), (73, .bool (decide ((0 - (n : Int)) > 4611686018427387904)))] [] [] (by kernel_rfl) (by kernel_rfl) (by kernel_rfl) (by kernel_rfl) ROL_nil trivial ?_
              refine RVd_case (decide ((0 - (n : Int)) > 4611686018427387904)) (fun bb => ⟨[(0, .string (B l)), (1, .int .i64 (p : Int)), (6, .int .i64 0), (7, .int .i64 0), (8, .int .i64 (i : Int)), (9, .int .i64 (0 - (n : Int))), (73, .bool bb)], []⟩) (by kernel_rfl) (fun h30 => ?_) (fun h30 => ?_)
              · skip
                replace h30 := of_decide_eq_true h30
                refine RVd_take (fuel' := 0) TOK [] [(16, 0), (17, 0), (18, 0), (19, 0), (20, 0), (21, 0), (22, 0), (23, 0), (24, 0), (25, 0), (26, 0), (27, 0)] [6, 7, 8, 9, 85] [] #[true, true, true, true, true, true, true, true, true, true, true, true, true, true, true, true, true, true, true, true, true, true, true, true, true, true, true, true] [(6, .int .i64 0), (7, .int .i64 0), (8, .int .i64 (i : Int)), (9, .int .i64 (0 - (n : Int))), (85, .bool true)] [] [] (by kernel_rfl) (by kernel_rfl) (by kernel_rfl) (by kernel_rfl) ROL_nil trivial ?_
                refine RVd_end (by kernel_rfl) ?_
                refine KE_then ?_
                refine VC_true (by kernel_rfl) ?_
                refine VC_go (hs := [0, 0]) TOK [6, 7, 8, 9] ⟨[(6, .int .i64 0), (7, .int .i64 (-1)), (8, .int .i64 (i : Int)), (9, .int .i64 (0 - (n : Int)))], []⟩ [] (by kernel_rfl) (by kernel_rfl) ?_
                refine VC_ret (ls := []) TOK [] 0 false [] [.int .i64 0, .int .i64 (-1)] [] ([]) rfl (by kernel_rfl) (by kernel_rfl) (fun w9 hx9 => ?_)
                show ∃ k r, (.tuple #[.int .i64 0, .int .i64 (-1)] : Value) = .tuple #[.int .i64 k, .int .i64 r] ∧ NumR l p e k r
                exact ⟨0, -1, rfl, num_no2 hJ (by unfold Stops; simp only [Dig]; omega) he (x := 0 - (n : Int)) (by simp only [signed, if_true, Bool.false_eq_true, if_false] <;> omega) (by first | exact .inl (by omega) | exact .inr (.inl (by assumption)) | exact .inr (.inr (.inl (by omega))) | exact .inr (.inr (.inr (.inl (by omega)))) | exact .inr (.inr (.inr (.inr (by assumption)))))⟩
              · skip
                replace h30 := of_decide_eq_false h30
                refine RVd_take (fuel' := 8) TOK [] [(16, 0), (17, 0), (18, 0), (19, 0)] [0, 1, 6, 7, 8, 9, 77] [] #[true, true, true, true, true, true, true, true, true, true, true, true, true, true, true, true, true, true, true, true, false, false, false, false, false, false, false, false] [(0, .string (B l)), (1, .int .i64 (p : Int)), (6, .int .i64 0), (7, .int .i64 0), (8, .int .i64 (i : Int)), (9, .int .i64 (0 - (n : Int))), (77, .bool (decide ((0 - (n : Int)) < (-4611686018427387904))))] [] [] (by kernel_rfl) (by kernel_rfl) (by kernel_rfl) (by kernel_rfl) ROL_nil trivial ?_
                refine RVd_case (decide ((0 - (n : Int)) < (-4611686018427387904))) (fun bb => ⟨[(0, .string (B l)), (1, .int .i64 (p : Int)), (6, .int .i64 0), (7, .int .i64 0), (8, .int .i64 (i : Int)), (9, .int .i64 (0 - (n : Int))), (77, .bool bb)], []⟩) (by kernel_rfl) (fun h31 => ?_) (fun h31 => ?_)
                · skip
                  replace h31 := of_decide_eq_true h31
                  refine RVd_take (fuel' := 0) TOK [] [(20, 0), (21, 0), (22, 0), (23, 0), (24, 0), (25, 0), (26, 0), (27, 0)] [6, 7, 8, 9, 85] [] #[true, true, true, true, true, true, true, true, true, true, true, true, true, true, true, true, true, true, true, true, true, true, true, true, true, true, true, true] [(6, .int .i64 0), (7, .int .i64 0), (8, .int .i64 (i : Int)), (9, .int .i64 (0 - (n : Int))), (85, .bool true)] [] [] (by kernel_rfl) (by kernel_rfl) (by kernel_rfl) (by kernel_rfl) ROL_nil trivial ?_
                  refine RVd_end (by kernel_rfl) ?_
                  refine KE_then ?_
                  refine VC_true (by kernel_rfl) ?_
                  refine VC_go (hs := [0, 0]) TOK [6, 7, 8, 9] ⟨[(6, .int .i64 0), (7, .int .i64 (-1)), (8, .int .i64 (i : Int)), (9, .int .i64 (0 - (n : Int)))], []⟩ [] (by kernel_rfl) (by kernel_rfl) ?_
                  refine VC_ret (ls := []) TOK [] 0 false [] [.int .i64 0, .int .i64 (-1)] [] ([]) rfl (by kernel_rfl) (by kernel_rfl) (fun w9 hx9 => ?_)
                  show ∃ k r, (.tuple #[.int .i64 0, .int .i64 (-1)] : Value) = .tuple #[.int .i64 k, .int .i64 r] ∧ NumR l p e k r
                  exact ⟨0, -1, rfl, num_no2 hJ (by unfold Stops; simp only [Dig]; omega) he (x := 0 - (n : Int)) (by simp only [signed, if_true, Bool.false_eq_true, if_false] <;> omega) (by first | exact .inl (by omega) | exact .inr (.inl (by assumption)) | exact .inr (.inr (.inl (by omega))) | exact .inr (.inr (.inr (.inl (by omega)))) | exact .inr (.inr (.inr (.inr (by assumption)))))⟩
                · skip
                  replace h31 := of_decide_eq_false h31
                  refine RVd_take (fuel' := 3) TOK [] [(20, 0), (22, 0), (23, 0), (24, 0), (25, 0)] [6, 7, 8, 9, 77, 78, 83] [] #[true, true, true, true, true, true, true, true, true, true, true, true, true, true, true, true, true, true, true, true, true, false, true, true, true, true, false, false] [(6, .int .i64 0), (7, .int .i64 0), (8, .int .i64 (i : Int)), (9, .int .i64 (0 - (n : Int))), (77, .bool false), (78, .int .i64 (0 - (n : Int))), (83, .string ((B l).extract p i))] [] [.le (i : Int) l.length, .le (p : Int) i] (by kernel_rfl) (by kernel_rfl) (by kernel_rfl) (by kernel_rfl) ROL_nil (by simp only [Conds, Cond.holds, and_true]; first | omega | (have hle := hJ.le; omega)) ?_
                  refine RVd_st ⟨[(6, .int .i64 0), (7, .int .i64 0), (8, .int .i64 (i : Int)), (9, .int .i64 (0 - (n : Int))), (77, .bool false), (78, .int .i64 (0 - (n : Int))), (83, .string (B ((l.take i).drop p)))], []⟩ (by rw [B_ext l p i]) ?_
                  refine RVd_call (fuel := 2) 21 [] #[true, true, true, true, true, true, true, true, true, true, true, true, true, true, true, true, true, true, true, true, true, true, true, true, true, true, false, false] (f := 27) (vs := [.int .i64 (0 - (n : Int))]) (dst := (some 79)) (by kernel_rfl) (by kernel_rfl) (by kernel_rfl) E27 (by kernel_rfl) (fun wa hxe hp => f27 (0 - (n : Int)) _ wa hp (by unfold InR; omega)) ?_
                  rintro S32 w33 v34 _ hx35 rfl
                  refine RVd_take (fuel' := 0) TOK [] [(26, 0), (27, 0)] [6, 7, 8, 9, 85] [] #[true, true, true, true, true, true, true, true, true, true, true, true, true, true, true, true, true, true, true, true, true, true, true, true, true, true, true, true] [(6, .int .i64 0), (7, .int .i64 0), (8, .int .i64 (i : Int)), (9, .int .i64 (0 - (n : Int))), (85, .bool (!((B (Lib.itoa (0 - (n : Int)))).toList == (B ((l.take i).drop p)).toList)))] [] [] (by kernel_rfl) (by kernel_rfl) (by kernel_rfl) (by kernel_rfl) ROL_nil trivial ?_
                  refine RVd_end (by kernel_rfl) ?_
                  refine KE_then ?_
                  refine VC_cond (!((B (Lib.itoa (0 - (n : Int)))).toList == (B ((l.take i).drop p)).toList)) (by kernel_rfl) (fun h36 => ?_) (fun h36 => ?_)
                  · skip
                    have h36 : ((B (Lib.itoa (0 - (n : Int)))).toList == (B ((l.take i).drop p)).toList) = false := by simpa using h36
                    replace h36 := B_ne h36
                    refine VC_go (hs := [0, 0]) TOK [6, 7, 8, 9] ⟨[(6, .int .i64 0), (7, .int .i64 (-1)), (8, .int .i64 (i : Int)), (9, .int .i64 (0 - (n : Int)))], []⟩ [] (by kernel_rfl) (by kernel_rfl) ?_
                    refine VC_ret (ls := []) TOK [] 0 false [] [.int .i64 0, .int .i64 (-1)] [] ([]) rfl (by kernel_rfl) (by kernel_rfl) (fun w9 hx9 => ?_)
                    show ∃ k r, (.tuple #[.int .i64 0, .int .i64 (-1)] : Value) = .tuple #[.int .i64 k, .int .i64 r] ∧ NumR l p e k r
                    exact ⟨0, -1, rfl, num_no2 hJ (by unfold Stops; simp only [Dig]; omega) he (x := 0 - (n : Int)) (by simp only [signed, if_true, Bool.false_eq_true, if_false] <;> omega) (by first | exact .inl (by omega) | exact .inr (.inl (by assumption)) | exact .inr (.inr (.inl (by omega))) | exact .inr (.inr (.inr (.inl (by omega)))) | exact .inr (.inr (.inr (.inr (by assumption)))))⟩
                  · skip
                    have h36 : ((B (Lib.itoa (0 - (n : Int)))).toList == (B ((l.take i).drop p)).toList) = true := by simpa using h36
                    replace h36 := B_eq h36
                    refine VC_skip ?_
                    refine KE_then ?_
                    refine VC_seq ?_
                    refine VC_region 5 rfl ?_
                    refine RV_go (hs := [0, 0, 0]) (c' := 2) (k' := 3) TOK [6, 7, 86, 88] ⟨[(6, .int .i64 0), (7, .int .i64 0), (86, .int .i64 (0 - (n : Int))), (88, .int .i64 (IntKind.i64.wrap ((i : Int) + 1)))], []⟩ [] (by kernel_rfl) (by kernel_rfl) ?_
                    refine RV_st ⟨[(6, .int .i64 0), (7, .int .i64 0), (86, .int .i64 (0 - (n : Int))), (88, .int .i64 ((i : Int) + 1))], []⟩ (by rw [wrap_id (x := (i : Int) + 1) (by unfold InR; first | omega | (have hu := UInt8.toNat_lt (l.getD i 0); omega))]) ?_
                    refine RV_go (hs := [0, 0]) (c' := 0) (k' := 5) TOK [6, 7] ⟨[(6, .int .i64 (0 - (n : Int))), (7, .int .i64 ((i : Int) + 1))], []⟩ [] (by kernel_rfl) (by kernel_rfl) ?_
                    refine RV_end ?_
                    refine KE_then ?_
                    refine VC_ret (ls := []) TOK [] 0 false [] [.int .i64 (0 - (n : Int)), .int .i64 ((i : Int) + 1)] [] ([]) rfl (by kernel_rfl) (by kernel_rfl) (fun w9 hx9 => ?_)
                    show ∃ k r, (.tuple #[.int .i64 (0 - (n : Int)), .int .i64 ((i : Int) + 1)] : Value) = .tuple #[.int .i64 k, .int .i64 r] ∧ NumR l p e k r
                    exact ⟨_, _, rfl, num_yes2 hJ (x := 0 - (n : Int)) (by simp only [signed, if_true, Bool.false_eq_true, if_false] <;> omega) (by omega) (by assumption) (by omega) (by omega) (by assumption) (by first | rfl | omega)⟩
      · skip
        replace h6 := of_decide_eq_false h6
        refine RV_go (hs := [0, 0, 0, 0, 0, 0, 0, 0, 0, 0, 0, 0, 0, 0, 0]) (c' := 0) (k' := 20) TOK [0, 1, 2, 6, 7, 8, 9, 10, 44] ⟨[(0, .string (B l)), (1, .int .i64 (p : Int)), (2, .int .u8 (e.toNat : Int)), (6, .int .i64 0), (7, .int .i64 0), (8, .int .i64 (i : Int)), (9, .int .i64 (n : Int)), (10, .bool true), (44, .bool false)], []⟩ [] (by kernel_rfl) (by kernel_rfl) ?_
        refine RV_end ?_
        refine KE_then ?_
        refine VC_false (by kernel_rfl) ?_
        refine VC_exit ?_
        refine KE_exit_then ?_
        refine KE_exit_then ?_
        refine KE_exit_here ?_
        refine KE_then ?_
        refine VC_seq ?_
        refine VC_go (hs := [0]) TOK [0, 1, 2, 6, 7, 8, 9, 55] ⟨[(0, .string (B l)), (1, .int .i64 (p : Int)), (2, .int .u8 (e.toNat : Int)), (6, .int .i64 0), (7, .int .i64 0), (8, .int .i64 (i : Int)), (9, .int .i64 (n : Int)), (55, .bool true)], []⟩ [] (by kernel_rfl) (by kernel_rfl) ?_
        refine VC_true (by kernel_rfl) ?_
        refine VC_region 3 rfl ?_
        refine RV_go (hs := [0, 0]) (c' := 1) (k' := 2) TOK [0, 1, 2, 6, 7, 8, 9, 57] ⟨[(0, .string (B l)), (1, .int .i64 (p : Int)), (2, .int .u8 (e.toNat : Int)), (6, .int .i64 0), (7, .int .i64 0), (8, .int .i64 (i : Int)), (9, .int .i64 (n : Int)), (57, .int .i64 (IntKind.i64.wrap (0 - (n : Int))))], []⟩ [] (by kernel_rfl) (by kernel_rfl) ?_
        refine RV_st ⟨[(0, .string (B l)), (1, .int .i64 (p : Int)), (2, .int .u8 (e.toNat : Int)), (6, .int .i64 0), (7, .int .i64 0), (8, .int .i64 (i : Int)), (9, .int .i64 (n : Int)), (57, .int .i64 (0 - (n : Int)))], []⟩ (by rw [wrap_id (x := 0 - (n : Int)) (by unfold InR; first | omega | (have hu := UInt8.toNat_lt (l.getD i 0); omega))]) ?_
        refine RV_go (hs := [0]) (c' := 0) (k' := 3) TOK [0, 1, 2, 6, 7, 8, 9] ⟨[(0, .string (B l)), (1, .int .i64 (p : Int)), (2, .int .u8 (e.toNat : Int)), (6, .int .i64 0), (7, .int .i64 0), (8, .int .i64 (i : Int)), (9, .int .i64 (0 - (n : Int)))], []⟩ [] (by kernel_rfl) (by kernel_rfl) ?_
        refine RV_end ?_
        refine KE_then ?_
        refine VC_seq ?_
        refine VC_seq ?_
        refine VC_draw MIX [] 28 rfl ?_
        refine RVd_take (fuel' := 23) TOK [] [(0, 0), (1, 0), (2, 0), (3, 0), (4, 0)] [0, 1, 2, 6, 7, 8, 9, 62] [] #[true, true, true, true, true, false, false, false, false, false, false, false, false, false, false, false, false, false, false, false, false, false, false, false, false, false, false, false] [(0, .string (B l)), (1, .int .i64 (p : Int)), (2, .int .u8 (e.toNat : Int)), (6, .int .i64 0), (7, .int .i64 0), (8, .int .i64 (i : Int)), (9, .int .i64 (0 - (n : Int))), (62, .bool (decide ((i : Int) ≥ (l.length : Int))))] [] [] (by kernel_rfl) (by kernel_rfl) (by kernel_rfl) (by kernel_rfl) ROL_nil trivial ?_
        refine RVd_case (decide ((i : Int) ≥ (l.length : Int))) (fun bb => ⟨[(0, .string (B l)), (1, .int .i64 (p : Int)), (2, .int .u8 (e.toNat : Int)), (6, .int .i64 0), (7, .int .i64 0), (8, .int .i64 (i : Int)), (9, .int .i64 (0 - (n : Int))), (62, .bool bb)], []⟩) (by kernel_rfl) (fun h37 => ?_) (fun h37 => ?_)
        · skip
          replace h37 := of_decide_eq_true h37
          refine RVd_take (fuel' := 0) TOK [] [(5, 0), (6, 0), (7, 0), (8, 0), (9, 0), (10, 0), (11, 0), (12, 0), (13, 0), (14, 0), (15, 0), (16, 0), (17, 0), (18, 0), (19, 0), (20, 0), (21, 0), (22, 0), (23, 0), (24, 0), (25, 0), (26, 0), (27, 0)] [6, 7, 8, 9, 85] [] #[true, true, true, true, true, true, true, true, true, true, true, true, true, true, true, true, true, true, true, true, true, true, true, true, true, true, true, true] [(6, .int .i64 0), (7, .int .i64 0), (8, .int .i64 (i : Int)), (9, .int .i64 (0 - (n : Int))), (85, .bool true)] [] [] (by kernel_rfl) (by kernel_rfl) (by kernel_rfl) (by kernel_rfl) ROL_nil trivial ?_
          refine RVd_end (by kernel_rfl) ?_
          refine KE_then ?_
          refine VC_true (by kernel_rfl) ?_
          refine VC_go (hs := [0, 0]) TOK [6, 7, 8, 9] ⟨[(6, .int .i64 0), (7, .int .i64 (-1)), (8, .int .i64 (i : Int)), (9, .int .i64 (0 - (n : Int)))], []⟩ [] (by kernel_rfl) (by kernel_rfl) ?_
          refine VC_ret (ls := []) TOK [] 0 false [] [.int .i64 0, .int .i64 (-1)] [] ([]) rfl (by kernel_rfl) (by kernel_rfl) (fun w9 hx9 => ?_)
          show ∃ k r, (.tuple #[.int .i64 0, .int .i64 (-1)] : Value) = .tuple #[.int .i64 k, .int .i64 r] ∧ NumR l p e k r
          exact ⟨0, -1, rfl, num_no2 hJ (by unfold Stops; simp only [Dig]; omega) he (x := 0 - (n : Int)) (by simp only [signed, if_true, Bool.false_eq_true, if_false] <;> omega) (by first | exact .inl (by omega) | exact .inr (.inl (by assumption)) | exact .inr (.inr (.inl (by omega))) | exact .inr (.inr (.inr (.inl (by omega)))) | exact .inr (.inr (.inr (.inr (by assumption)))))⟩
        · skip
          replace h37 := of_decide_eq_false h37
          refine RVd_take (fuel' := 16) TOK [] [(5, 0), (6, 0), (7, 0), (8, 0), (9, 0), (10, 0), (11, 0)] [0, 1, 6, 7, 8, 9, 69] [] #[true, true, true, true, true, true, true, true, true, true, true, true, false, false, false, false, false, false, false, false, false, false, false, false, false, false, false, false] [(0, .string (B l)), (1, .int .i64 (p : Int)), (6, .int .i64 0), (7, .int .i64 0), (8, .int .i64 (i : Int)), (9, .int .i64 (0 - (n : Int))), (69, .bool (((l.getD i 0).toNat : Int) != (e.toNat : Int)))] [] [.lt (i : Int) l.length] (by kernel_rfl) (by kernel_rfl) (by kernel_rfl) (by kernel_rfl) ROL_nil (by simp only [Conds, Cond.holds, and_true]; first | omega | (have hle := hJ.le; omega)) ?_
          refine RVd_case (((l.getD i 0).toNat : Int) != (e.toNat : Int)) (fun bb => ⟨[(0, .string (B l)), (1, .int .i64 (p : Int)), (6, .int .i64 0), (7, .int .i64 0), (8, .int .i64 (i : Int)), (9, .int .i64 (0 - (n : Int))), (69, .bool bb)], []⟩) (by kernel_rfl) (fun h38 => ?_) (fun h38 => ?_)
          · skip
            replace h38 := bne_iff_ne.1 h38
            refine RVd_take (fuel' := 0) TOK [] [(12, 0), (13, 0), (14, 0), (15, 0), (16, 0), (17, 0), (18, 0), (19, 0), (20, 0), (21, 0), (22, 0), (23, 0), (24, 0), (25, 0), (26, 0), (27, 0)] [6, 7, 8, 9, 85] [] #[true, true, true, true, true, true, true, true, true, true, true, true, true, true, true, true, true, true, true, true, true, true, true, true, true, true, true, true] [(6, .int .i64 0), (7, .int .i64 0), (8, .int .i64 (i : Int)), (9, .int .i64 (0 - (n : Int))), (85, .bool true)] [] [] (by kernel_rfl) (by kernel_rfl) (by kernel_rfl) (by kernel_rfl) ROL_nil trivial ?_
            refine RVd_end (by kernel_rfl) ?_
            refine KE_then ?_
            refine VC_true (by kernel_rfl) ?_
            refine VC_go (hs := [0, 0]) TOK [6, 7, 8, 9] ⟨[(6, .int .i64 0), (7, .int .i64 (-1)), (8, .int .i64 (i : Int)), (9, .int .i64 (0 - (n : Int)))], []⟩ [] (by kernel_rfl) (by kernel_rfl) ?_
            refine VC_ret (ls := []) TOK [] 0 false [] [.int .i64 0, .int .i64 (-1)] [] ([]) rfl (by kernel_rfl) (by kernel_rfl) (fun w9 hx9 => ?_)
            show ∃ k r, (.tuple #[.int .i64 0, .int .i64 (-1)] : Value) = .tuple #[.int .i64 k, .int .i64 r] ∧ NumR l p e k r
            exact ⟨0, -1, rfl, num_no2 hJ (by unfold Stops; simp only [Dig]; omega) he (x := 0 - (n : Int)) (by simp only [signed, if_true, Bool.false_eq_true, if_false] <;> omega) (by first | exact .inl (by omega) | exact .inr (.inl (by assumption)) | exact .inr (.inr (.inl (by omega))) | exact .inr (.inr (.inr (.inl (by omega)))) | exact .inr (.inr (.inr (.inr (by assumption)))))⟩
          · skip
            replace h38 : ((l.getD i 0).toNat : Int) = (e.toNat : Int) := by simpa using h38
            refine RVd_take (fuel' := 12) TOK [] [(12, 0), (13, 0), (14, 0), (15, 0)] [0, 1, 6, 7, 8, 9, 73] [] #[true, true, true, true, true, true, true, true, true, true, true, true, true, true, true, true, false, false, false, false, false, false, false, false, false, false, false, false] [(0, .string (B l)), (1, .int .i64 (p : Int)), (6, .int .i64 0), (7, .int .i64 0), (8, .int .i64 (i : Int)), (9, .int .i64 (0 - (n : Int))), (73, .bool (decide ((0 - (n : Int)) > 4611686018427387904)))] [] [] (by kernel_rfl) (by kernel_rfl) (by kernel_rfl) (by kernel_rfl) ROL_nil trivial ?_
            refine RVd_case (decide ((0 - (n : Int)) > 4611686018427387904)) (fun bb => ⟨[(0, .string (B l)), (1, .int .i64 (p : Int)), (6, .int .i64 0), (7, .int .i64 0), (8, .int .i64 (i : Int)), (9, .int .i64 (0 - (n : Int))), (73, .bool bb)], []⟩) (by kernel_rfl) (fun h39 => ?_) (fun h39 => ?_)
            · skip
              replace h39 := of_decide_eq_true h39
              refine RVd_take (fuel' := 0) TOK [] [(16, 0), (17, 0), (18, 0), (19, 0), (20, 0), (21, 0), (22, 0), (23, 0), (24, 0), (25, 0), (26, 0), (27, 0)] [6, 7, 8, 9, 85] [] #[true, true, true, true, true, true, true, true, true, true, true, true, true, true, true, true, true, true, true, true, true, true, true, true, true, true, true, true] [(6, .int .i64 0), (7, .int .i64 0), (8, .int .i64 (i : Int)), (9, .int .i64 (0 - (n : Int))), (85, .bool true)] [] [] (by kernel_rfl) (by kernel_rfl) (by kernel_rfl) (by kernel_rfl) ROL_nil trivial ?_
              refine RVd_end (by kernel_rfl) ?_
              refine KE_then ?_
              refine VC_true (by kernel_rfl) ?_
              refine VC_go (hs := [0, 0]) TOK [6, 7, 8, 9] ⟨[(6, .int .i64 0), (7, .int .i64 (-1)), (8, .int .i64 (i : Int)), (9, .int .i64 (0 - (n : Int)))], []⟩ [] (by kernel_rfl) (by kernel_rfl) ?_
              refine VC_ret (ls := []) TOK [] 0 false [] [.int .i64 0, .int .i64 (-1)] [] ([]) rfl (by kernel_rfl) (by kernel_rfl) (fun w9 hx9 => ?_)
              show ∃ k r, (.tuple #[.int .i64 0, .int .i64 (-1)] : Value) = .tuple #[.int .i64 k, .int .i64 r] ∧ NumR l p e k r
              exact ⟨0, -1, rfl, num_no2 hJ (by unfold Stops; simp only [Dig]; omega) he (x := 0 - (n : Int)) (by simp only [signed, if_true, Bool.false_eq_true, if_false] <;> omega) (by first | exact .inl (by omega) | exact .inr (.inl (by assumption)) | exact .inr (.inr (.inl (by omega))) | exact .inr (.inr (.inr (.inl (by omega)))) | exact .inr (.inr (.inr (.inr (by assumption)))))⟩
            · skip
              replace h39 := of_decide_eq_false h39
              refine RVd_take (fuel' := 8) TOK [] [(16, 0), (17, 0), (18, 0), (19, 0)] [0, 1, 6, 7, 8, 9, 77] [] #[true, true, true, true, true, true, true, true, true, true, true, true, true, true, true, true, true, true, true, true, false, false, false, false, false, false, false, false] [(0, .string (B l)), (1, .int .i64 (p : Int)), (6, .int .i64 0), (7, .int .i64 0), (8, .int .i64 (i : Int)), (9, .int .i64 (0 - (n : Int))), (77, .bool (decide ((0 - (n : Int)) < (-4611686018427387904))))] [] [] (by kernel_rfl) (by kernel_rfl) (by kernel_rfl) (by kernel_rfl) ROL_nil trivial ?_
              refine RVd_case (decide ((0 - (n : Int)) < (-4611686018427387904))) (fun bb => ⟨[(0, .string (B l)), (1, .int .i64 (p : Int)), (6, .int .i64 0), (7, .int .i64 0), (8, .int .i64 (i : Int)), (9, .int .i64 (0 - (n : Int))), (77, .bool bb)], []⟩) (by kernel_rfl) (fun h40 => ?_) (fun h40 => ?_)
              · skip
                replace h40 := of_decide_eq_true h40
                refine RVd_take (fuel' := 0) TOK [] [(20, 0), (21, 0), (22, 0), (23, 0), (24, 0), (25, 0), (26, 0), (27, 0)] [6, 7, 8, 9, 85] [] #[true, true, true, true, true, true, true, true, true, true, true, true, true, true, true, true, true, true, true, true, true, true, true, true, true, true, true, true] [(6, .int .i64 0), (7, .int .i64 0), (8, .int .i64 (i : Int)), (9, .int .i64 (0 - (n : Int))), (85, .bool true)] [] [] (by kernel_rfl) (by kernel_rfl) (by kernel_rfl) (by kernel_rfl) ROL_nil trivial ?_
                refine RVd_end (by kernel_rfl) ?_
                refine KE_then ?_
                refine VC_true (by kernel_rfl) ?_
                refine VC_go (hs := [0, 0]) TOK [6, 7, 8, 9] ⟨[(6, .int .i64 0), (7, .int .i64 (-1)), (8, .int .i64 (i : Int)), (9, .int .i64 (0 - (n : Int)))], []⟩ [] (by kernel_rfl) (by kernel_rfl) ?_
                refine VC_ret (ls := []) TOK [] 0 false [] [.int .i64 0, .int .i64 (-1)] [] ([]) rfl (by kernel_rfl) (by kernel_rfl) (fun w9 hx9 => ?_)
                show ∃ k r, (.tuple #[.int .i64 0, .int .i64 (-1)] : Value) = .tuple #[.int .i64 k, .int .i64 r] ∧ NumR l p e k r
                exact ⟨0, -1, rfl, num_no2 hJ (by unfold Stops; simp only [Dig]; omega) he (x := 0 - (n : Int)) (by simp only [signed, if_true, Bool.false_eq_true, if_false] <;> omega) (by first | exact .inl (by omega) | exact .inr (.inl (by assumption)) | exact .inr (.inr (.inl (by omega))) | exact .inr (.inr (.inr (.inl (by omega)))) | exact .inr (.inr (.inr (.inr (by assumption)))))⟩
              · skip
                replace h40 := of_decide_eq_false h40
                refine RVd_take (fuel' := 3) TOK [] [(20, 0), (22, 0), (23, 0), (24, 0), (25, 0)] [6, 7, 8, 9, 77, 78, 83] [] #[true, true, true, true, true, true, true, true, true, true, true, true, true, true, true, true, true, true, true, true, true, false, true, true, true, true, false, false] [(6, .int .i64 0), (7, .int .i64 0), (8, .int .i64 (i : Int)), (9, .int .i64 (0 - (n : Int))), (77, .bool false), (78, .int .i64 (0 - (n : Int))), (83, .string ((B l).extract p i))] [] [.le (i : Int) l.length, .le (p : Int) i] (by kernel_rfl) (by kernel_rfl) (by kernel_rfl) (by kernel_rfl) ROL_nil (by simp only [Conds, Cond.holds, and_true]; first | omega | (have hle := hJ.le; omega)) ?_
                refine RVd_st ⟨[(6, .int .i64 0), (7, .int .i64 0), (8, .int .i64 (i : Int)), (9, .int .i64 (0 - (n : Int))), (77, .bool false), (78, .int .i64 (0 - (n : Int))), (83, .string (B ((l.take i).drop p)))], []⟩ (by rw [B_ext l p i]) ?_
                refine RVd_call (fuel := 2) 21 [] #[true, true, true, true, true, true, true, true, true, true, true, true, true, true, true, true, true, true, true, true, true, true, true, true, true, true, false, false] (f := 27) (vs := [.int .i64 (0 - (n : Int))]) (dst := (some 79)) (by kernel_rfl) (by kernel_rfl) (by kernel_rfl) E27 (by kernel_rfl) (fun wa hxe hp => f27 (0 - (n : Int)) _ wa hp (by unfold InR; omega)) ?_
                rintro S41 w42 v43 _ hx44 rfl
                refine RVd_take (fuel' := 0) TOK [] [(26, 0), (27, 0)] [6, 7, 8, 9, 85] [] #[true, true, true, true, true, true, true, true, true, true, true, true, true, true, true, true, true, true, true, true, true, true, true, true, true, true, true, true] [(6, .int .i64 0), (7, .int .i64 0), (8, .int .i64 (i : Int)), (9, .int .i64 (0 - (n : Int))), (85, .bool (!((B (Lib.itoa (0 - (n : Int)))).toList == (B ((l.take i).drop p)).toList)))] [] [] (by kernel_rfl) (by kernel_rfl) (by kernel_rfl) (by kernel_rfl) ROL_nil trivial ?_
                refine RVd_end (by kernel_rfl) ?_
                refine KE_then ?_
                refine VC_cond (!((B (Lib.itoa (0 - (n : Int)))).toList == (B ((l.take i).drop p)).toList)) (by kernel_rfl) (fun h45 => ?_) (fun h45 => ?_)
                · skip
                  have h45 : ((B (Lib.itoa (0 - (n : Int)))).toList == (B ((l.take i).drop p)).toList) = false := by simpa using h45
                  replace h45 := B_ne h45
                  refine VC_go (hs := [0, 0]) TOK [6, 7, 8, 9] ⟨[(6, .int .i64 0), (7, .int .i64 (-1)), (8, .int .i64 (i : Int)), (9, .int .i64 (0 - (n : Int)))], []⟩ [] (by kernel_rfl) (by kernel_rfl) ?_
                  refine VC_ret (ls := []) TOK [] 0 false [] [.int .i64 0, .int .i64 (-1)] [] ([]) rfl (by kernel_rfl) (by kernel_rfl) (fun w9 hx9 => ?_)
                  show ∃ k r, (.tuple #[.int .i64 0, .int .i64 (-1)] : Value) = .tuple #[.int .i64 k, .int .i64 r] ∧ NumR l p e k r
                  exact ⟨0, -1, rfl, num_no2 hJ (by unfold Stops; simp only [Dig]; omega) he (x := 0 - (n : Int)) (by simp only [signed, if_true, Bool.false_eq_true, if_false] <;> omega) (by first | exact .inl (by omega) | exact .inr (.inl (by assumption)) | exact .inr (.inr (.inl (by omega))) | exact .inr (.inr (.inr (.inl (by omega)))) | exact .inr (.inr (.inr (.inr (by assumption)))))⟩
                · skip
                  have h45 : ((B (Lib.itoa (0 - (n : Int)))).toList == (B ((l.take i).drop p)).toList) = true := by simpa using h45
                  replace h45 := B_eq h45
                  refine VC_skip ?_
                  refine KE_then ?_
                  refine VC_seq ?_
                  refine VC_region 5 rfl ?_
                  refine RV_go (hs := [0, 0, 0]) (c' := 2) (k' := 3) TOK [6, 7, 86, 88] ⟨[(6, .int .i64 0), (7, .int .i64 0), (86, .int .i64 (0 - (n : Int))), (88, .int .i64 (IntKind.i64.wrap ((i : Int) + 1)))], []⟩ [] (by kernel_rfl) (by kernel_rfl) ?_
                  refine RV_st ⟨[(6, .int .i64 0), (7, .int .i64 0), (86, .int .i64 (0 - (n : Int))), (88, .int .i64 ((i : Int) + 1))], []⟩ (by rw [wrap_id (x := (i : Int) + 1) (by unfold InR; first | omega | (have hu := UInt8.toNat_lt (l.getD i 0); omega))]) ?_
                  refine RV_go (hs := [0, 0]) (c' := 0) (k' := 5) TOK [6, 7] ⟨[(6, .int .i64 (0 - (n : Int))), (7, .int .i64 ((i : Int) + 1))], []⟩ [] (by kernel_rfl) (by kernel_rfl) ?_
                  refine RV_end ?_
                  refine KE_then ?_
                  refine VC_ret (ls := []) TOK [] 0 false [] [.int .i64 (0 - (n : Int)), .int .i64 ((i : Int) + 1)] [] ([]) rfl (by kernel_rfl) (by kernel_rfl) (fun w9 hx9 => ?_)
                  show ∃ k r, (.tuple #[.int .i64 (0 - (n : Int)), .int .i64 ((i : Int) + 1)] : Value) = .tuple #[.int .i64 k, .int .i64 r] ∧ NumR l p e k r
                  exact ⟨_, _, rfl, num_yes2 hJ (x := 0 - (n : Int)) (by simp only [signed, if_true, Bool.false_eq_true, if_false] <;> omega) (by omega) (by assumption) (by omega) (by omega) (by assumption) (by first | rfl | omega)⟩
    · skip
      refine VC_keep [0, 1, 2, 6, 7, 8, 9, 10] [] 0 ⟨[(0, .string (B l)), (1, .int .i64 (p : Int)), (2, .int .u8 (e.toNat : Int)), (6, .int .i64 0), (7, .int .i64 0), (8, .int .i64 (p : Int)), (9, .int .i64 0), (10, .bool (((l.getD p 0).toNat : Int) == 45))], []⟩ (by kernel_rfl) (by kernel_rfl) ?_
      refine VC_st ⟨[(0, .string (B l)), (1, .int .i64 (p : Int)), (2, .int .u8 (e.toNat : Int)), (6, .int .i64 0), (7, .int .i64 0), (8, .int .i64 (p : Int)), (9, .int .i64 0), (10, .bool false)], []⟩ (by rw [h2]) ?_
      replace h2 := ne_of_beq_false h2
      refine VC_skip ?_
      refine KE_then ?_
      refine VC_seq ?_
      refine VC_block ?_
      refine VC_keep [0, 1, 2, 6, 7, 8, 9, 10] [] 0 ⟨[(0, .string (B l)), (1, .int .i64 (p : Int)), (2, .int .u8 (e.toNat : Int)), (6, .int .i64 0), (7, .int .i64 0), (8, .int .i64 (p : Int)), (9, .int .i64 (0 : Int)), (10, .bool false)], []⟩ (by kernel_rfl) (by kernel_rfl) ?_
      refine VC_loop (J := fun m_ S' w' st_ => ∃ (i : Nat) (n : Nat), (NumJ l p p i n false) ∧ (n ≤ 4611686018427387919) ∧ m_ = l.length - i ∧ Ext S w S' w' ∧ st_ = ⟨[(0, .string (B l)), (1, .int .i64 (p : Int)), (2, .int .u8 (e.toNat : Int)), (6, .int .i64 0), (7, .int .i64 0), (8, .int .i64 (i : Int)), (9, .int .i64 (n : Int)), (10, .bool false)], []⟩) (l.length - p) ⟨p, 0, (by exact num_start hpl false (sign_no (by first | exact .inl (by omega) | exact .inr (by assumption))) (by simp <;> omega)), (by exact Nat.zero_le _), rfl, Ext.refl _ _, rfl⟩ ?_
      rintro _ S46 w47 _ ⟨i, n, hJ, hn, rfl, hx48, rfl⟩
      -- a round
      refine VC_seq ?_
      refine VC_seq ?_
      refine VC_region 20 rfl ?_
      refine RV_go (hs := [0, 0, 0, 0, 0]) (c' := 15) (k' := 5) TOK [0, 1, 2, 6, 7, 8, 9, 10, 29] ⟨[(0, .string (B l)), (1, .int .i64 (p : Int)), (2, .int .u8 (e.toNat : Int)), (6, .int .i64 0), (7, .int .i64 0), (8, .int .i64 (i : Int)), (9, .int .i64 (n : Int)), (10, .bool false), (29, .bool (decide ((i : Int) < (l.length : Int))))], []⟩ [] (by kernel_rfl) (by kernel_rfl) ?_
      refine RV_case (decide ((i : Int) < (l.length : Int))) (fun bb => ⟨[(0, .string (B l)), (1, .int .i64 (p : Int)), (2, .int .u8 (e.toNat : Int)), (6, .int .i64 0), (7, .int .i64 0), (8, .int .i64 (i : Int)), (9, .int .i64 (n : Int)), (10, .bool false), (29, .bool bb)], []⟩) (by kernel_rfl) (fun h49 => ?_) (fun h49 => ?_)
      · skip
        replace h49 := of_decide_eq_true h49
        refine RV_run (hs := [0, 0, 0, 0, 0, 0]) (c' := 9) (k' := 11) TOK [] [0, 1, 2, 6, 7, 8, 9, 10, 35] ⟨[(0, .string (B l)), (1, .int .i64 (p : Int)), (2, .int .u8 (e.toNat : Int)), (6, .int .i64 0), (7, .int .i64 0), (8, .int .i64 (i : Int)), (9, .int .i64 (n : Int)), (10, .bool false), (35, .bool (decide (((l.getD i 0).toNat : Int) ≥ 48)))], []⟩ [] [.lt (i : Int) l.length] (by kernel_rfl) (by kernel_rfl) ROS_nil (by simp only [Conds, Cond.holds, and_true]; first | omega | (have hle := hJ.le; omega)) ?_
        refine RV_case (decide (((l.getD i 0).toNat : Int) ≥ 48)) (fun bb => ⟨[(0, .string (B l)), (1, .int .i64 (p : Int)), (2, .int .u8 (e.toNat : Int)), (6, .int .i64 0), (7, .int .i64 0), (8, .int .i64 (i : Int)), (9, .int .i64 (n : Int)), (10, .bool false), (35, .bool bb)], []⟩) (by kernel_rfl) (fun h50 => ?_) (fun h50 => ?_)
        · skip
          replace h50 := of_decide_eq_true h50
          refine RV_run (hs := [0, 0, 0, 0, 0, 0]) (c' := 3) (k' := 17) TOK [] [0, 1, 2, 6, 7, 8, 9, 10, 41] ⟨[(0, .string (B l)), (1, .int .i64 (p : Int)), (2, .int .u8 (e.toNat : Int)), (6, .int .i64 0), (7, .int .i64 0), (8, .int .i64 (i : Int)), (9, .int .i64 (n : Int)), (10, .bool false), (41, .bool (decide (((l.getD i 0).toNat : Int) ≤ 57)))], []⟩ [] [.lt (i : Int) l.length] (by kernel_rfl) (by kernel_rfl) ROS_nil (by simp only [Conds, Cond.holds, and_true]; first | omega | (have hle := hJ.le; omega)) ?_
          refine RV_case (decide (((l.getD i 0).toNat : Int) ≤ 57)) (fun bb => ⟨[(0, .string (B l)), (1, .int .i64 (p : Int)), (2, .int .u8 (e.toNat : Int)), (6, .int .i64 0), (7, .int .i64 0), (8, .int .i64 (i : Int)), (9, .int .i64 (n : Int)), (10, .bool false), (41, .bool bb)], []⟩) (by kernel_rfl) (fun h51 => ?_) (fun h51 => ?_)
          · skip
            replace h51 := of_decide_eq_true h51
            refine RV_go (hs := [0, 0, 0]) (c' := 0) (k' := 20) TOK [0, 1, 2, 6, 7, 8, 9, 10, 44] ⟨[(0, .string (B l)), (1, .int .i64 (p : Int)), (2, .int .u8 (e.toNat : Int)), (6, .int .i64 0), (7, .int .i64 0), (8, .int .i64 (i : Int)), (9, .int .i64 (n : Int)), (10, .bool false), (44, .bool (decide ((n : Int) ≤ 461168601842738791)))], []⟩ [] (by kernel_rfl) (by kernel_rfl) ?_
            refine RV_end ?_
            refine KE_then ?_
            refine VC_cond (decide ((n : Int) ≤ 461168601842738791)) (by kernel_rfl) (fun h52 => ?_) (fun h52 => ?_)
            · skip
              replace h52 := of_decide_eq_true h52
              refine VC_skip ?_
              refine KE_then ?_
              refine VC_block ?_
              refine VC_seq ?_
              refine VC_region 9 rfl ?_
              refine RV_go (hs := [0, 0]) (c' := 7) (k' := 2) TOK [0, 1, 2, 6, 7, 8, 9, 10, 46] ⟨[(0, .string (B l)), (1, .int .i64 (p : Int)), (2, .int .u8 (e.toNat : Int)), (6, .int .i64 0), (7, .int .i64 0), (8, .int .i64 (i : Int)), (9, .int .i64 (n : Int)), (10, .bool false), (46, .int .i64 (IntKind.i64.wrap (10 * (n : Int))))], []⟩ [] (by kernel_rfl) (by kernel_rfl) ?_
              refine RV_st ⟨[(0, .string (B l)), (1, .int .i64 (p : Int)), (2, .int .u8 (e.toNat : Int)), (6, .int .i64 0), (7, .int .i64 0), (8, .int .i64 (i : Int)), (9, .int .i64 (n : Int)), (10, .bool false), (46, .int .i64 (10 * (n : Int)))], []⟩ (by rw [wrap_id (x := 10 * (n : Int)) (by unfold InR; first | omega | (have hu := UInt8.toNat_lt (l.getD i 0); omega))]) ?_
              refine RV_run (hs := [0, 0, 0, 0]) (c' := 3) (k' := 6) TOK [] [0, 1, 2, 6, 7, 8, 9, 10, 46, 50] ⟨[(0, .string (B l)), (1, .int .i64 (p : Int)), (2, .int .u8 (e.toNat : Int)), (6, .int .i64 0), (7, .int .i64 0), (8, .int .i64 (i : Int)), (9, .int .i64 (n : Int)), (10, .bool false), (46, .int .i64 (10 * (n : Int))), (50, .int .i64 (IntKind.i64.wrap ((l.getD i 0).toNat : Int)))], []⟩ [] [.lt (i : Int) l.length] (by kernel_rfl) (by kernel_rfl) ROS_nil (by simp only [Conds, Cond.holds, and_true]; first | omega | (have hle := hJ.le; omega)) ?_
              refine RV_st ⟨[(0, .string (B l)), (1, .int .i64 (p : Int)), (2, .int .u8 (e.toNat : Int)), (6, .int .i64 0), (7, .int .i64 0), (8, .int .i64 (i : Int)), (9, .int .i64 (n : Int)), (10, .bool false), (46, .int .i64 (10 * (n : Int))), (50, .int .i64 ((l.getD i 0).toNat : Int))], []⟩ (by rw [wrap_id (x := ((l.getD i 0).toNat : Int)) (by unfold InR; first | omega | (have hu := UInt8.toNat_lt (l.getD i 0); omega))]) ?_
              refine RV_go (hs := [0]) (c' := 2) (k' := 7) TOK [0, 1, 2, 6, 7, 8, 9, 10, 51] ⟨[(0, .string (B l)), (1, .int .i64 (p : Int)), (2, .int .u8 (e.toNat : Int)), (6, .int .i64 0), (7, .int .i64 0), (8, .int .i64 (i : Int)), (9, .int .i64 (n : Int)), (10, .bool false), (51, .int .i64 (IntKind.i64.wrap ((10 * (n : Int)) + ((l.getD i 0).toNat : Int))))], []⟩ [] (by kernel_rfl) (by kernel_rfl) ?_
              refine RV_st ⟨[(0, .string (B l)), (1, .int .i64 (p : Int)), (2, .int .u8 (e.toNat : Int)), (6, .int .i64 0), (7, .int .i64 0), (8, .int .i64 (i : Int)), (9, .int .i64 (n : Int)), (10, .bool false), (51, .int .i64 ((10 * (n : Int)) + ((l.getD i 0).toNat : Int)))], []⟩ (by rw [wrap_id (x := (10 * (n : Int)) + ((l.getD i 0).toNat : Int)) (by unfold InR; first | omega | (have hu := UInt8.toNat_lt (l.getD i 0); omega))]) ?_
              refine RV_go (hs := [0]) (c' := 1) (k' := 8) TOK [0, 1, 2, 6, 7, 8, 9, 10, 52] ⟨[(0, .string (B l)), (1, .int .i64 (p : Int)), (2, .int .u8 (e.toNat : Int)), (6, .int .i64 0), (7, .int .i64 0), (8, .int .i64 (i : Int)), (9, .int .i64 (n : Int)), (10, .bool false), (52, .int .i64 (IntKind.i64.wrap (((10 * (n : Int)) + ((l.getD i 0).toNat : Int)) - 48)))], []⟩ [] (by kernel_rfl) (by kernel_rfl) ?_
              refine RV_st ⟨[(0, .string (B l)), (1, .int .i64 (p : Int)), (2, .int .u8 (e.toNat : Int)), (6, .int .i64 0), (7, .int .i64 0), (8, .int .i64 (i : Int)), (9, .int .i64 (n : Int)), (10, .bool false), (52, .int .i64 (((10 * (n : Int)) + ((l.getD i 0).toNat : Int)) - 48))], []⟩ (by rw [wrap_id (x := ((10 * (n : Int)) + ((l.getD i 0).toNat : Int)) - 48) (by unfold InR; first | omega | (have hu := UInt8.toNat_lt (l.getD i 0); omega))]) ?_
              refine RV_go (hs := [0]) (c' := 0) (k' := 9) TOK [0, 1, 2, 6, 7, 8, 9, 10] ⟨[(0, .string (B l)), (1, .int .i64 (p : Int)), (2, .int .u8 (e.toNat : Int)), (6, .int .i64 0), (7, .int .i64 0), (8, .int .i64 (i : Int)), (9, .int .i64 (((10 * (n : Int)) + ((l.getD i 0).toNat : Int)) - 48)), (10, .bool false)], []⟩ [] (by kernel_rfl) (by kernel_rfl) ?_
              refine RV_end ?_
              refine KE_then ?_
              refine VC_region 3 rfl ?_
              refine RV_go (hs := [0, 0]) (c' := 1) (k' := 2) TOK [0, 1, 2, 6, 7, 8, 9, 10, 54] ⟨[(0, .string (B l)), (1, .int .i64 (p : Int)), (2, .int .u8 (e.toNat : Int)), (6, .int .i64 0), (7, .int .i64 0), (8, .int .i64 (i : Int)), (9, .int .i64 (((10 * (n : Int)) + ((l.getD i 0).toNat : Int)) - 48)), (10, .bool false), (54, .int .i64 (IntKind.i64.wrap ((i : Int) + 1)))], []⟩ [] (by kernel_rfl) (by kernel_rfl) ?_
              refine RV_st ⟨[(0, .string (B l)), (1, .int .i64 (p : Int)), (2, .int .u8 (e.toNat : Int)), (6, .int .i64 0), (7, .int .i64 0), (8, .int .i64 (i : Int)), (9, .int .i64 (((10 * (n : Int)) + ((l.getD i 0).toNat : Int)) - 48)), (10, .bool false), (54, .int .i64 ((i : Int) + 1))], []⟩ (by rw [wrap_id (x := (i : Int) + 1) (by unfold InR; first | omega | (have hu := UInt8.toNat_lt (l.getD i 0); omega))]) ?_
              refine RV_go (hs := [0]) (c' := 0) (k' := 3) TOK [0, 1, 2, 6, 7, 8, 9, 10] ⟨[(0, .string (B l)), (1, .int .i64 (p : Int)), (2, .int .u8 (e.toNat : Int)), (6, .int .i64 0), (7, .int .i64 0), (8, .int .i64 ((i : Int) + 1)), (9, .int .i64 (((10 * (n : Int)) + ((l.getD i 0).toNat : Int)) - 48)), (10, .bool false)], []⟩ [] (by kernel_rfl) (by kernel_rfl) ?_
              refine RV_end ?_
              refine KE_block ?_
              refine KE_st ⟨[(0, .string (B l)), (1, .int .i64 (p : Int)), (2, .int .u8 (e.toNat : Int)), (6, .int .i64 0), (7, .int .i64 0), (8, .int .i64 ((i : Int) + 1)), (9, .int .i64 ((10 * n + ((l.getD i 0).toNat - 48) : Nat) : Int)), (10, .bool false)], []⟩ (by rw [show ((10 * (n : Int)) + ((l.getD i 0).toNat : Int)) - 48 = ((10 * n + ((l.getD i 0).toNat - 48) : Nat) : Int) from by omega]) ?_
              refine KE_rnd (l.length - (i + 1)) [0, 1, 2, 6, 7, 8, 9, 10] [] 0 ⟨[(0, .string (B l)), (1, .int .i64 (p : Int)), (2, .int .u8 (e.toNat : Int)), (6, .int .i64 0), (7, .int .i64 0), (8, .int .i64 (((i + 1) : Nat) : Int)), (9, .int .i64 (((10 * n + ((l.getD i 0).toNat - 48)) : Nat) : Int)), (10, .bool false)], []⟩ (by kernel_rfl) (by kernel_rfl) (by omega) ⟨(i + 1), (10 * n + ((l.getD i 0).toNat - 48)), (by exact num_next hJ (by omega) (by omega)), (by omega), rfl, hx48, rfl⟩
            · skip
              replace h52 := of_decide_eq_false h52
              refine VC_exit ?_
              refine KE_exit_then ?_
              refine KE_exit_then ?_
              refine KE_exit_here ?_
              refine KE_then ?_
              refine VC_seq ?_
              refine VC_go (hs := [0]) TOK [0, 1, 2, 6, 7, 8, 9, 55] ⟨[(0, .string (B l)), (1, .int .i64 (p : Int)), (2, .int .u8 (e.toNat : Int)), (6, .int .i64 0), (7, .int .i64 0), (8, .int .i64 (i : Int)), (9, .int .i64 (n : Int)), (55, .bool false)], []⟩ [] (by kernel_rfl) (by kernel_rfl) ?_
              refine VC_false (by kernel_rfl) ?_
              refine VC_skip ?_
              refine KE_then ?_
              refine VC_seq ?_
              refine VC_seq ?_
              refine VC_draw MIX [] 28 rfl ?_
              refine RVd_take (fuel' := 23) TOK [] [(0, 0), (1, 0), (2, 0), (3, 0), (4, 0)] [0, 1, 2, 6, 7, 8, 9, 62] [] #[true, true, true, true, true, false, false, false, false, false, false, false, false, false, false, false, false, false, false, false, false, false, false, false, false, false, false, false] [(0, .string (B l)), (1, .int .i64 (p : Int)), (2, .int .u8 (e.toNat : Int)), (6, .int .i64 0), (7, .int .i64 0), (8, .int .i64 (i : Int)), (9, .int .i64 (n : Int)), (62, .bool (decide ((i : Int) ≥ (l.length : Int))))] [] [] (by kernel_rfl) (by kernel_rfl) (by kernel_rfl) (by kernel_rfl) ROL_nil trivial ?_
              refine RVd_case (decide ((i : Int) ≥ (l.length : Int))) (fun bb => ⟨[(0, .string (B l)), (1, .int .i64 (p : Int)), (2, .int .u8 (e.toNat : Int)), (6, .int .i64 0), (7, .int .i64 0), (8, .int .i64 (i : Int)), (9, .int .i64 (n : Int)), (62, .bool bb)], []⟩) (by kernel_rfl) (fun h53 => ?_) (fun h53 => ?_)
              · skip
                replace h53 := of_decide_eq_true h53
                refine RVd_take (fuel' := 0) TOK [] [(5, 0), (6, 0), (7, 0), (8, 0), (9, 0), (10, 0), (11, 0), (12, 0), (13, 0), (14, 0), (15, 0), (16, 0), (17, 0), (18, 0), (19, 0), (20, 0), (21, 0), (22, 0), (23, 0), (24, 0), (25, 0), (26, 0), (27, 0)] [6, 7, 8, 9, 85] [] #[true, true, true, true, true, true, true, true, true, true, true, true, true, true, true, true, true, true, true, true, true, true, true, true, true, true, true, true] [(6, .int .i64 0), (7, .int .i64 0), (8, .int .i64 (i : Int)), (9, .int .i64 (n : Int)), (85, .bool true)] [] [] (by kernel_rfl) (by kernel_rfl) (by kernel_rfl) (by kernel_rfl) ROL_nil trivial ?_
                refine RVd_end (by kernel_rfl) ?_
                refine KE_then ?_
                refine VC_true (by kernel_rfl) ?_
                refine VC_go (hs := [0, 0]) TOK [6, 7, 8, 9] ⟨[(6, .int .i64 0), (7, .int .i64 (-1)), (8, .int .i64 (i : Int)), (9, .int .i64 (n : Int))], []⟩ [] (by kernel_rfl) (by kernel_rfl) ?_
                refine VC_ret (ls := []) TOK [] 0 false [] [.int .i64 0, .int .i64 (-1)] [] ([]) rfl (by kernel_rfl) (by kernel_rfl) (fun w9 hx9 => ?_)
                show ∃ k r, (.tuple #[.int .i64 0, .int .i64 (-1)] : Value) = .tuple #[.int .i64 k, .int .i64 r] ∧ NumR l p e k r
                exact ⟨0, -1, rfl, num_no2 hJ (by unfold Stops; simp only [Dig]; omega) he (x := (n : Int)) (by simp only [signed, if_true, Bool.false_eq_true, if_false] <;> omega) (by first | exact .inl (by omega) | exact .inr (.inl (by assumption)) | exact .inr (.inr (.inl (by omega))) | exact .inr (.inr (.inr (.inl (by omega)))) | exact .inr (.inr (.inr (.inr (by assumption)))))⟩
              · skip
                replace h53 := of_decide_eq_false h53
                refine RVd_take (fuel' := 16) TOK [] [(5, 0), (6, 0), (7, 0), (8, 0), (9, 0), (10, 0), (11, 0)] [0, 1, 6, 7, 8, 9, 69] [] #[true, true, true, true, true, true, true, true, true, true, true, true, false, false, false, false, false, false, false, false, false, false, false, false, false, false, false, false] [(0, .string (B l)), (1, .int .i64 (p : Int)), (6, .int .i64 0), (7, .int .i64 0), (8, .int .i64 (i : Int)), (9, .int .i64 (n : Int)), (69, .bool (((l.getD i 0).toNat : Int) != (e.toNat : Int)))] [] [.lt (i : Int) l.length] (by kernel_rfl) (by kernel_rfl) (by kernel_rfl) (by kernel_rfl) ROL_nil (by simp only [Conds, Cond.holds, and_true]; first | omega | (have hle := hJ.le; omega)) ?_
                refine RVd_case (((l.getD i 0).toNat : Int) != (e.toNat : Int)) (fun bb => ⟨[(0, .string (B l)), (1, .int .i64 (p : Int)), (6, .int .i64 0), (7, .int .i64 0), (8, .int .i64 (i : Int)), (9, .int .i64 (n : Int)), (69, .bool bb)], []⟩) (by kernel_rfl) (fun h54 => ?_) (fun h54 => ?_)
                · skip
                  replace h54 := bne_iff_ne.1 h54
                  refine RVd_take (fuel' := 0) TOK [] [(12, 0), (13, 0), (14, 0), (15, 0), (16, 0), (17, 0), (18, 0), (19, 0), (20, 0), (21, 0), (22, 0), (23, 0), (24, 0), (25, 0), (26, 0), (27, 0)] [6, 7, 8, 9, 85] [] #[true, true, true, true, true, true, true, true, true, true, true, true, true, true, true, true, true, true, true, true, true, true, true, true, true, true, true, true] [(6, .int .i64 0), (7, .int .i64 0), (8, .int .i64 (i : Int)), (9, .int .i64 (n : Int)), (85, .bool true)] [] [] (by kernel_rfl) (by kernel_rfl) (by kernel_rfl) (by kernel_rfl) ROL_nil trivial ?_
                  refine RVd_end (by kernel_rfl) ?_
                  refine KE_then ?_
                  refine VC_true (by kernel_rfl) ?_
                  refine VC_go (hs := [0, 0]) TOK [6, 7, 8, 9] ⟨[(6, .int .i64 0), (7, .int .i64 (-1)), (8, .int .i64 (i : Int)), (9, .int .i64 (n : Int))], []⟩ [] (by kernel_rfl) (by kernel_rfl) ?_
                  refine VC_ret (ls := []) TOK [] 0 false [] [.int .i64 0, .int .i64 (-1)] [] ([]) rfl (by kernel_rfl) (by kernel_rfl) (fun w9 hx9 => ?_)
                  show ∃ k r, (.tuple #[.int .i64 0, .int .i64 (-1)] : Value) = .tuple #[.int .i64 k, .int .i64 r] ∧ NumR l p e k r
                  exact ⟨0, -1, rfl, num_no2 hJ (by unfold Stops; simp only [Dig]; omega) he (x := (n : Int)) (by simp only [signed, if_true, Bool.false_eq_true, if_false] <;> omega) (by first | exact .inl (by omega) | exact .inr (.inl (by assumption)) | exact .inr (.inr (.inl (by omega))) | exact .inr (.inr (.inr (.inl (by omega)))) | exact .inr (.inr (.inr (.inr (by assumption)))))⟩
                · skip
                  replace h54 : ((l.getD i 0).toNat : Int) = (e.toNat : Int) := by simpa using h54
                  refine RVd_take (fuel' := 12) TOK [] [(12, 0), (13, 0), (14, 0), (15, 0)] [0, 1, 6, 7, 8, 9, 73] [] #[true, true, true, true, true, true, true, true, true, true, true, true, true, true, true, true, false, false, false, false, false, false, false, false, false, false, false, false] [(0, .string (B l)), (1, .int .i64 (p : Int)), (6, .int .i64 0), (7, .int .i64 0), (8, .int .i64 (i : Int)), (9, .int .i64 (n : Int)), (73, .bool (decide ((n : Int) > 4611686018427387904)))] [] [] (by kernel_rfl) (by kernel_rfl) (by kernel_rfl) (by kernel_rfl) ROL_nil trivial ?_
                  refine RVd_case (decide ((n : Int) > 4611686018427387904)) (fun bb => ⟨[(0, .string (B l)), (1, .int .i64 (p : Int)), (6, .int .i64 0), (7, .int .i64 0), (8, .int .i64 (i : Int)), (9, .int .i64 (n : Int)), (73, .bool bb)], []⟩) (by kernel_rfl) (fun h55 => ?_) (fun h55 => ?_)
                  · skip
                    replace h55 := of_decide_eq_true h55
                    refine RVd_take (fuel' := 0) TOK [] [(16, 0), (17, 0), (18, 0), (19, 0), (20, 0), (21, 0), (22, 0), (23, 0), (24, 0), (25, 0), (26, 0), (27, 0)] [6, 7, 8, 9, 85] [] #[true, true, true, true, true, true, true, true, true, true, true, true, true, true, true, true, true, true, true, true, true, true, true, true, true, true, true, true] [(6, .int .i64 0), (7, .int .i64 0), (8, .int .i64 (i : Int)), (9, .int .i64 (n : Int)), (85, .bool true)] [] [] (by kernel_rfl) (by kernel_rfl) (by kernel_rfl) (by kernel_rfl) ROL_nil trivial ?_
                    refine RVd_end (by kernel_rfl) ?_
                    refine KE_then ?_
                    refine VC_true (by kernel_rfl) ?_
                    refine VC_go (hs := [0, 0]) TOK [6, 7, 8, 9] ⟨[(6, .int .i64 0), (7, .int .i64 (-1)), (8, .int .i64 (i : Int)), (9, .int .i64 (n : Int))], []⟩ [] (by kernel_rfl) (by kernel_rfl) ?_
                    refine VC_ret (ls := []) TOK [] 0 false [] [.int .i64 0, .int .i64 (-1)] [] ([]) rfl (by kernel_rfl) (by kernel_rfl) (fun w9 hx9 => ?_)
                    show ∃ k r, (.tuple #[.int .i64 0, .int .i64 (-1)] : Value) = .tuple #[.int .i64 k, .int .i64 r] ∧ NumR l p e k r
                    exact ⟨0, -1, rfl, num_no2 hJ (by unfold Stops; simp only [Dig]; omega) he (x := (n : Int)) (by simp only [signed, if_true, Bool.false_eq_true, if_false] <;> omega) (by first | exact .inl (by omega) | exact .inr (.inl (by assumption)) | exact .inr (.inr (.inl (by omega))) | exact .inr (.inr (.inr (.inl (by omega)))) | exact .inr (.inr (.inr (.inr (by assumption)))))⟩
                  · skip
                    replace h55 := of_decide_eq_false h55
                    refine RVd_take (fuel' := 8) TOK [] [(16, 0), (17, 0), (18, 0), (19, 0)] [0, 1, 6, 7, 8, 9, 77] [] #[true, true, true, true, true, true, true, true, true, true, true, true, true, true, true, true, true, true, true, true, false, false, false, false, false, false, false, false] [(0, .string (B l)), (1, .int .i64 (p : Int)), (6, .int .i64 0), (7, .int .i64 0), (8, .int .i64 (i : Int)), (9, .int .i64 (n : Int)), (77, .bool (decide ((n : Int) < (-4611686018427387904))))] [] [] (by kernel_rfl) (by kernel_rfl) (by kernel_rfl) (by kernel_rfl) ROL_nil trivial ?_
                    refine RVd_case (decide ((n : Int) < (-4611686018427387904))) (fun bb => ⟨[(0, .string (B l)), (1, .int .i64 (p : Int)), (6, .int .i64 0), (7, .int .i64 0), (8, .int .i64 (i : Int)), (9, .int .i64 (n : Int)), (77, .bool bb)], []⟩) (by kernel_rfl) (fun h56 => ?_) (fun h56 => ?_)
                    · skip
                      replace h56 := of_decide_eq_true h56
                      refine RVd_take (fuel' := 0) TOK [] [(20, 0), (21, 0), (22, 0), (23, 0), (24, 0), (25, 0), (26, 0), (27, 0)] [6, 7, 8, 9, 85] [] #[true, true, true, true, true, true, true, true, true, true, true, true, true, true, true, true, true, true, true, true, true, true, true, true, true, true, true, true] [(6, .int .i64 0), (7, .int .i64 0), (8, .int .i64 (i : Int)), (9, .int .i64 (n : Int)), (85, .bool true)] [] [] (by kernel_rfl) (by kernel_rfl) (by kernel_rfl) (by kernel_rfl) ROL_nil trivial ?_
                      refine RVd_end (by kernel_rfl) ?_
                      refine KE_then ?_
                      refine VC_true (by kernel_rfl) ?_
                      refine VC_go (hs := [0, 0]) TOK [6, 7, 8, 9] ⟨[(6, .int .i64 0), (7, .int .i64 (-1)), (8, .int .i64 (i : Int)), (9, .int .i64 (n : Int))], []⟩ [] (by kernel_rfl) (by kernel_rfl) ?_
                      refine VC_ret (ls := []) TOK [] 0 false [] [.int .i64 0, .int .i64 (-1)] [] ([]) rfl (by kernel_rfl) (by kernel_rfl) (fun w9 hx9 => ?_)
                      show ∃ k r, (.tuple #[.int .i64 0, .int .i64 (-1)] : Value) = .tuple #[.int .i64 k, .int .i64 r] ∧ NumR l p e k r
                      exact ⟨0, -1, rfl, num_no2 hJ (by unfold Stops; simp only [Dig]; omega) he (x := (n : Int)) (by simp only [signed, if_true, Bool.false_eq_true, if_false] <;> omega) (by first | exact .inl (by omega) | exact .inr (.inl (by assumption)) | exact .inr (.inr (.inl (by omega))) | exact .inr (.inr (.inr (.inl (by omega)))) | exact .inr (.inr (.inr (.inr (by assumption)))))⟩
                    · skip
                      replace h56 := of_decide_eq_false h56
                      refine RVd_take (fuel' := 3) TOK [] [(20, 0), (22, 0), (23, 0), (24, 0), (25, 0)] [6, 7, 8, 9, 77, 78, 83] [] #[true, true, true, true, true, true, true, true, true, true, true, true, true, true, true, true, true, true, true, true, true, false, true, true, true, true, false, false] [(6, .int .i64 0), (7, .int .i64 0), (8, .int .i64 (i : Int)), (9, .int .i64 (n : Int)), (77, .bool false), (78, .int .i64 (n : Int)), (83, .string ((B l).extract p i))] [] [.le (i : Int) l.length, .le (p : Int) i] (by kernel_rfl) (by kernel_rfl) (by kernel_rfl) (by kernel_rfl) ROL_nil (by simp only [Conds, Cond.holds, and_true]; first | omega | (have hle := hJ.le; omega)) ?_
                      refine RVd_st ⟨[(6, .int .i64 0), (7, .int .i64 0), (8, .int .i64 (i : Int)), (9, .int .i64 (n : Int)), (77, .bool false), (78, .int .i64 (n : Int)), (83, .string (B ((l.take i).drop p)))], []⟩ (by rw [B_ext l p i]) ?_
                      refine RVd_call (fuel := 2) 21 [] #[true, true, true, true, true, true, true, true, true, true, true, true, true, true, true, true, true, true, true, true, true, true, true, true, true, true, false, false] (f := 27) (vs := [.int .i64 (n : Int)]) (dst := (some 79)) (by kernel_rfl) (by kernel_rfl) (by kernel_rfl) E27 (by kernel_rfl) (fun wa hxe hp => f27 (n : Int) _ wa hp (by unfold InR; omega)) ?_
                      rintro S57 w58 v59 _ hx60 rfl
                      refine RVd_take (fuel' := 0) TOK [] [(26, 0), (27, 0)] [6, 7, 8, 9, 85] [] #[true, true, true, true, true, true, true, true, true, true, true, true, true, true, true, true, true, true, true, true, true, true, true, true, true, true, true, true] [(6, .int .i64 0), (7, .int .i64 0), (8, .int .i64 (i : Int)), (9, .int .i64 (n : Int)), (85, .bool (!((B (Lib.itoa (n : Int))).toList == (B ((l.take i).drop p)).toList)))] [] [] (by kernel_rfl) (by kernel_rfl) (by kernel_rfl) (by kernel_rfl) ROL_nil trivial ?_
                      refine RVd_end (by kernel_rfl) ?_
                      refine KE_then ?_
                      refine VC_cond (!((B (Lib.itoa (n : Int))).toList == (B ((l.take i).drop p)).toList)) (by kernel_rfl) (fun h61 => ?_) (fun h61 => ?_)
                      · skip
                        have h61 : ((B (Lib.itoa (n : Int))).toList == (B ((l.take i).drop p)).toList) = false := by simpa using h61
                        replace h61 := B_ne h61
                        refine VC_go (hs := [0, 0]) TOK [6, 7, 8, 9] ⟨[(6, .int .i64 0), (7, .int .i64 (-1)), (8, .int .i64 (i : Int)), (9, .int .i64 (n : Int))], []⟩ [] (by kernel_rfl) (by kernel_rfl) ?_
                        refine VC_ret (ls := []) TOK [] 0 false [] [.int .i64 0, .int .i64 (-1)] [] ([]) rfl (by kernel_rfl) (by kernel_rfl) (fun w9 hx9 => ?_)
                        show ∃ k r, (.tuple #[.int .i64 0, .int .i64 (-1)] : Value) = .tuple #[.int .i64 k, .int .i64 r] ∧ NumR l p e k r
                        exact ⟨0, -1, rfl, num_no2 hJ (by unfold Stops; simp only [Dig]; omega) he (x := (n : Int)) (by simp only [signed, if_true, Bool.false_eq_true, if_false] <;> omega) (by first | exact .inl (by omega) | exact .inr (.inl (by assumption)) | exact .inr (.inr (.inl (by omega))) | exact .inr (.inr (.inr (.inl (by omega)))) | exact .inr (.inr (.inr (.inr (by assumption)))))⟩
                      · skip
                        have h61 : ((B (Lib.itoa (n : Int))).toList == (B ((l.take i).drop p)).toList) = true := by simpa using h61
                        replace h61 := B_eq h61
                        refine VC_skip ?_
                        refine KE_then ?_
                        refine VC_seq ?_
                        refine VC_region 5 rfl ?_
                        refine RV_go (hs := [0, 0, 0]) (c' := 2) (k' := 3) TOK [6, 7, 86, 88] ⟨[(6, .int .i64 0), (7, .int .i64 0), (86, .int .i64 (n : Int)), (88, .int .i64 (IntKind.i64.wrap ((i : Int) + 1)))], []⟩ [] (by kernel_rfl) (by kernel_rfl) ?_
                        refine RV_st ⟨[(6, .int .i64 0), (7, .int .i64 0), (86, .int .i64 (n : Int)), (88, .int .i64 ((i : Int) + 1))], []⟩ (by rw [wrap_id (x := (i : Int) + 1) (by unfold InR; first | omega | (have hu := UInt8.toNat_lt (l.getD i 0); omega))]) ?_
                        refine RV_go (hs := [0, 0]) (c' := 0) (k' := 5) TOK [6, 7] ⟨[(6, .int .i64 (n : Int)), (7, .int .i64 ((i : Int) + 1))], []⟩ [] (by kernel_rfl) (by kernel_rfl) ?_
                        refine RV_end ?_
                        refine KE_then ?_
                        refine VC_ret (ls := []) TOK [] 0 false [] [.int .i64 (n : Int), .int .i64 ((i : Int) + 1)] [] ([]) rfl (by kernel_rfl) (by kernel_rfl) (fun w9 hx9 => ?_)
                        show ∃ k r, (.tuple #[.int .i64 (n : Int), .int .i64 ((i : Int) + 1)] : Value) = .tuple #[.int .i64 k, .int .i64 r] ∧ NumR l p e k r
                        exact ⟨_, _, rfl, num_yes2 hJ (x := (n : Int)) (by simp only [signed, if_true, Bool.false_eq_true, if_false] <;> omega) (by omega) (by assumption) (by omega) (by omega) (by assumption) (by first | rfl | omega)⟩
          · skip
            replace h51 := of_decide_eq_false h51
            refine RV_go (hs := [0, 0, 0]) (c' := 0) (k' := 20) TOK [0, 1, 2, 6, 7, 8, 9, 10, 44] ⟨[(0, .string (B l)), (1, .int .i64 (p : Int)), (2, .int .u8 (e.toNat : Int)), (6, .int .i64 0), (7, .int .i64 0), (8, .int .i64 (i : Int)), (9, .int .i64 (n : Int)), (10, .bool false), (44, .bool false)], []⟩ [] (by kernel_rfl) (by kernel_rfl) ?_
            refine RV_end ?_
            refine KE_then ?_
            refine VC_false (by kernel_rfl) ?_
            refine VC_exit ?_
            refine KE_exit_then ?_
            refine KE_exit_then ?_
            refine KE_exit_here ?_
            refine KE_then ?_
            refine VC_seq ?_
            refine VC_go (hs := [0]) TOK [0, 1, 2, 6, 7, 8, 9, 55] ⟨[(0, .string (B l)), (1, .int .i64 (p : Int)), (2, .int .u8 (e.toNat : Int)), (6, .int .i64 0), (7, .int .i64 0), (8, .int .i64 (i : Int)), (9, .int .i64 (n : Int)), (55, .bool false)], []⟩ [] (by kernel_rfl) (by kernel_rfl) ?_
            refine VC_false (by kernel_rfl) ?_
            refine VC_skip ?_
            refine KE_then ?_
            refine VC_seq ?_
            refine VC_seq ?_
            refine VC_draw MIX [] 28 rfl ?_
            refine RVd_take (fuel' := 23) TOK [] [(0, 0), (1, 0), (2, 0), (3, 0), (4, 0)] [0, 1, 2, 6, 7, 8, 9, 62] [] #[true, true, true, true, true, false, false, false, false, false, false, false, false, false, false, false, false, false, false, false, false, false, false, false, false, false, false, false] [(0, .string (B l)), (1, .int .i64 (p : Int)), (2, .int .u8 (e.toNat : Int)), (6, .int .i64 0), (7, .int .i64 0), (8, .int .i64 (i : Int)), (9, .int .i64 (n : Int)), (62, .bool (decide ((i : Int) ≥ (l.length : Int))))] [] [] (by kernel_rfl) (by kernel_rfl) (by kernel_rfl) (by kernel_rfl) ROL_nil trivial ?_
            refine RVd_case (decide ((i : Int) ≥ (l.length : Int))) (fun bb => ⟨[(0, .string (B l)), (1, .int .i64 (p : Int)), (2, .int .u8 (e.toNat : Int)), (6, .int .i64 0), (7, .int .i64 0), (8, .int .i64 (i : Int)), (9, .int .i64 (n : Int)), (62, .bool bb)], []⟩) (by kernel_rfl) (fun h62 => ?_) (fun h62 => ?_)
            · skip
              replace h62 := of_decide_eq_true h62
              refine RVd_take (fuel' := 0) TOK [] [(5, 0), (6, 0), (7, 0), (8, 0), (9, 0), (10, 0), (11, 0), (12, 0), (13, 0), (14, 0), (15, 0), (16, 0), (17, 0), (18, 0), (19, 0), (20, 0), (21, 0), (22, 0), (23, 0), (24, 0), (25, 0), (26, 0), (27, 0)] [6, 7, 8, 9, 85] [] #[true, true, true, true, true, true, true, true, true, true, true, true, true, true, true, true, true, true, true, true, true, true, true, true, true, true, true, true] [(6, .int .i64 0), (7, .int .i64 0), (8, .int .i64 (i : Int)), (9, .int .i64 (n : Int)), (85, .bool true)] [] [] (by kernel_rfl) (by kernel_rfl) (by kernel_rfl) (by kernel_rfl) ROL_nil trivial ?_
              refine RVd_end (by kernel_rfl) ?_
              refine KE_then ?_
              refine VC_true (by kernel_rfl) ?_
              refine VC_go (hs := [0, 0]) TOK [6, 7, 8, 9] ⟨[(6, .int .i64 0), (7, .int .i64 (-1)), (8, .int .i64 (i : Int)), (9, .int .i64 (n : Int))], []⟩ [] (by kernel_rfl) (by kernel_rfl) ?_
              refine VC_ret (ls := []) TOK [] 0 false [] [.int .i64 0, .int .i64 (-1)] [] ([]) rfl (by kernel_rfl) (by kernel_rfl) (fun w9 hx9 => ?_)
              show ∃ k r, (.tuple #[.int .i64 0, .int .i64 (-1)] : Value) = .tuple #[.int .i64 k, .int .i64 r] ∧ NumR l p e k r
              exact ⟨0, -1, rfl, num_no2 hJ (by unfold Stops; simp only [Dig]; omega) he (x := (n : Int)) (by simp only [signed, if_true, Bool.false_eq_true, if_false] <;> omega) (by first | exact .inl (by omega) | exact .inr (.inl (by assumption)) | exact .inr (.inr (.inl (by omega))) | exact .inr (.inr (.inr (.inl (by omega)))) | exact .inr (.inr (.inr (.inr (by assumption)))))⟩
            · skip
              replace h62 := of_decide_eq_false h62
              refine RVd_take (fuel' := 16) TOK [] [(5, 0), (6, 0), (7, 0), (8, 0), (9, 0), (10, 0), (11, 0)] [0, 1, 6, 7, 8, 9, 69] [] #[true, true, true, true, true, true, true, true, true, true, true, true, false, false, false, false, false, false, false, false, false, false, false, false, false, false, false, false] [(0, .string (B l)), (1, .int .i64 (p : Int)), (6, .int .i64 0), (7, .int .i64 0), (8, .int .i64 (i : Int)), (9, .int .i64 (n : Int)), (69, .bool (((l.getD i 0).toNat : Int) != (e.toNat : Int)))] [] [.lt (i : Int) l.length] (by kernel_rfl) (by kernel_rfl) (by kernel_rfl) (by kernel_rfl) ROL_nil (by simp only [Conds, Cond.holds, and_true]; first | omega | (have hle := hJ.le; omega)) ?_
              refine RVd_case (((l.getD i 0).toNat : Int) != (e.toNat : Int)) (fun bb => ⟨[(0, .string (B l)), (1, .int .i64 (p : Int)), (6, .int .i64 0), (7, .int .i64 0), (8, .int .i64 (i : Int)), (9, .int .i64 (n : Int)), (69, .bool bb)], []⟩) (by kernel_rfl) (fun h63 => ?_) (fun h63 => ?_)
              · skip
                replace h63 := bne_iff_ne.1 h63
                refine RVd_take (fuel' := 0) TOK [] [(12, 0), (13, 0), (14, 0), (15, 0), (16, 0), (17, 0), (18, 0), (19, 0), (20, 0), (21, 0), (22, 0), (23, 0), (24, 0), (25, 0), (26, 0), (27, 0)] [6, 7, 8, 9, 85] [] #[true, true, true, true, true, true, true, true, true, true, true, true, true, true, true, true, true, true, true, true, true, true, true, true, true, true, true, true] [(6, .int .i64 0), (7, .int .i64 0), (8, .int .i64 (i : Int)), (9, .int .i64 (n : Int)), (85, .bool true)] [] [] (by kernel_rfl) (by kernel_rfl) (by kernel_rfl) (by kernel_rfl) ROL_nil trivial ?_
                refine RVd_end (by kernel_rfl) ?_
                refine KE_then ?_
                refine VC_true (by kernel_rfl) ?_
                refine VC_go (hs := [0, 0]) TOK [6, 7, 8, 9] ⟨[(6, .int .i64 0), (7, .int .i64 (-1)), (8, .int .i64 (i : Int)), (9, .int .i64 (n : Int))], []⟩ [] (by kernel_rfl) (by kernel_rfl) ?_
                refine VC_ret (ls := []) TOK [] 0 false [] [.int .i64 0, .int .i64 (-1)] [] ([]) rfl (by kernel_rfl) (by kernel_rfl) (fun w9 hx9 => ?_)
                show ∃ k r, (.tuple #[.int .i64 0, .int .i64 (-1)] : Value) = .tuple #[.int .i64 k, .int .i64 r] ∧ NumR l p e k r
                exact ⟨0, -1, rfl, num_no2 hJ (by unfold Stops; simp only [Dig]; omega) he (x := (n : Int)) (by simp only [signed, if_true, Bool.false_eq_true, if_false] <;> omega) (by first | exact .inl (by omega) | exact .inr (.inl (by assumption)) | exact .inr (.inr (.inl (by omega))) | exact .inr (.inr (.inr (.inl (by omega)))) | exact .inr (.inr (.inr (.inr (by assumption)))))⟩
              · skip
                replace h63 : ((l.getD i 0).toNat : Int) = (e.toNat : Int) := by simpa using h63
                refine RVd_take (fuel' := 12) TOK [] [(12, 0), (13, 0), (14, 0), (15, 0)] [0, 1, 6, 7, 8, 9, 73] [] #[true, true, true, true, true, true, true, true, true, true, true, true, true, true, true, true, false, false, false, false, false, false, false, false, false, false, false, false] [(0, .string (B l)), (1, .int .i64 (p : Int)), (6, .int .i64 0), (7, .int .i64 0), (8, .int .i64 (i : Int)), (9, .int .i64 (n : Int)), (73, .bool (decide ((n : Int) > 4611686018427387904)))] [] [] (by kernel_rfl) (by kernel_rfl) (by kernel_rfl) (by kernel_rfl) ROL_nil trivial ?_
                refine RVd_case (decide ((n : Int) > 4611686018427387904)) (fun bb => ⟨[(0, .string (B l)), (1, .int .i64 (p : Int)), (6, .int .i64 0), (7, .int .i64 0), (8, .int .i64 (i : Int)), (9, .int .i64 (n : Int)), (73, .bool bb)], []⟩) (by kernel_rfl) (fun h64 => ?_) (fun h64 => ?_)
                · skip
                  replace h64 := of_decide_eq_true h64
                  refine RVd_take (fuel' := 0) TOK [] [(16, 0), (17, 0), (18, 0), (19, 0), (20, 0), (21, 0), (22, 0), (23, 0), (24, 0), (25, 0), (26, 0), (27, 0)] [6, 7, 8, 9, 85] [] #[true, true, true, true, true, true, true, true, true, true, true, true, true, true, true, true, true, true, true, true, true, true, true, true, true, true, true, true] [(6, .int .i64 0), (7, .int .i64 0), (8, .int .i64 (i : Int)), (9, .int .i64 (n : Int)), (85, .bool true)] [] [] (by kernel_rfl) (by kernel_rfl) (by kernel_rfl) (by kernel_rfl) ROL_nil trivial ?_
                  refine RVd_end (by kernel_rfl) ?_
                  refine KE_then ?_
                  refine VC_true (by kernel_rfl) ?_
                  refine VC_go (hs := [0, 0]) TOK [6, 7, 8, 9] ⟨[(6, .int .i64 0), (7, .int .i64 (-1)), (8, .int .i64 (i : Int)), (9, .int .i64 (n : Int))], []⟩ [] (by kernel_rfl) (by kernel_rfl) ?_
                  refine VC_ret (ls := []) TOK [] 0 false [] [.int .i64 0, .int .i64 (-1)] [] ([]) rfl (by kernel_rfl) (by kernel_rfl) (fun w9 hx9 => ?_)
                  show ∃ k r, (.tuple #[.int .i64 0, .int .i64 (-1)] : Value) = .tuple #[.int .i64 k, .int .i64 r] ∧ NumR l p e k r
                  exact ⟨0, -1, rfl, num_no2 hJ (by unfold Stops; simp only [Dig]; omega) he (x := (n : Int)) (by simp only [signed, if_true, Bool.false_eq_true, if_false] <;> omega) (by first | exact .inl (by omega) | exact .inr (.inl (by assumption)) | exact .inr (.inr (.inl (by omega))) | exact .inr (.inr (.inr (.inl (by omega)))) | exact .inr (.inr (.inr (.inr (by assumption)))))⟩
                · skip
                  replace h64 := of_decide_eq_false h64
                  refine RVd_take (fuel' := 8) TOK [] [(16, 0), (17, 0), (18, 0), (19, 0)] [0, 1, 6, 7, 8, 9, 77] [] #[true, true, true, true, true, true, true, true, true, true, true, true, true, true, true, true, true, true, true, true, false, false, false, false, false, false, false, false] [(0, .string (B l)), (1, .int .i64 (p : Int)), (6, .int .i64 0), (7, .int .i64 0), (8, .int .i64 (i : Int)), (9, .int .i64 (n : Int)), (77, .bool (decide ((n : Int) < (-4611686018427387904))))] [] [] (by kernel_rfl) (by kernel_rfl) (by kernel_rfl) (by kernel_rfl) ROL_nil trivial ?_
                  refine RVd_case (decide ((n : Int) < (-4611686018427387904))) (fun bb => ⟨[(0, .string (B l)), (1, .int .i64 (p : Int)), (6, .int .i64 0), (7, .int .i64 0), (8, .int .i64 (i : Int)), (9, .int .i64 (n : Int)), (77, .bool bb)], []⟩) (by kernel_rfl) (fun h65 => ?_) (fun h65 => ?_)
                  · skip
                    replace h65 := of_decide_eq_true h65
                    refine RVd_take (fuel' := 0) TOK [] [(20, 0), (21, 0), (22, 0), (23, 0), (24, 0), (25, 0), (26, 0), (27, 0)] [6, 7, 8, 9, 85] [] #[true, true, true, true, true, true, true, true, true, true, true, true, true, true, true, true, true, true, true, true, true, true, true, true, true, true, true, true] [(6, .int .i64 0), (7, .int .i64 0), (8, .int .i64 (i : Int)), (9, .int .i64 (n : Int)), (85, .bool true)] [] [] (by kernel_rfl) (by kernel_rfl) (by kernel_rfl) (by kernel_rfl) ROL_nil trivial ?_
                    refine RVd_end (by kernel_rfl) ?_
                    refine KE_then ?_
                    refine VC_true (by kernel_rfl) ?_
                    refine VC_go (hs := [0, 0]) TOK [6, 7, 8, 9] ⟨[(6, .int .i64 0), (7, .int .i64 (-1)), (8, .int .i64 (i : Int)), (9, .int .i64 (n : Int))], []⟩ [] (by kernel_rfl) (by kernel_rfl) ?_
                    refine VC_ret (ls := []) TOK [] 0 false [] [.int .i64 0, .int .i64 (-1)] [] ([]) rfl (by kernel_rfl) (by kernel_rfl) (fun w9 hx9 => ?_)
                    show ∃ k r, (.tuple #[.int .i64 0, .int .i64 (-1)] : Value) = .tuple #[.int .i64 k, .int .i64 r] ∧ NumR l p e k r
                    exact ⟨0, -1, rfl, num_no2 hJ (by unfold Stops; simp only [Dig]; omega) he (x := (n : Int)) (by simp only [signed, if_true, Bool.false_eq_true, if_false] <;> omega) (by first | exact .inl (by omega) | exact .inr (.inl (by assumption)) | exact .inr (.inr (.inl (by omega))) | exact .inr (.inr (.inr (.inl (by omega)))) | exact .inr (.inr (.inr (.inr (by assumption)))))⟩
                  · skip
                    replace h65 := of_decide_eq_false h65
                    refine RVd_take (fuel' := 3) TOK [] [(20, 0), (22, 0), (23, 0), (24, 0), (25, 0)] [6, 7, 8, 9, 77, 78, 83] [] #[true, true, true, true, true, true, true, true, true, true, true, true, true, true, true, true, true, true, true, true, true, false, true, true, true, true, false, false] [(6, .int .i64 0), (7, .int .i64 0), (8, .int .i64 (i : Int)), (9, .int .i64 (n : Int)), (77, .bool false), (78, .int .i64 (n : Int)), (83, .string ((B l).extract p i))] [] [.le (i : Int) l.length, .le (p : Int) i] (by kernel_rfl) (by kernel_rfl) (by kernel_rfl) (by kernel_rfl) ROL_nil (by simp only [Conds, Cond.holds, and_true]; first | omega | (have hle := hJ.le; omega)) ?_
                    refine RVd_st ⟨[(6, .int .i64 0), (7, .int .i64 0), (8, .int .i64 (i : Int)), (9, .int .i64 (n : Int)), (77, .bool false), (78, .int .i64 (n : Int)), (83, .string (B ((l.take i).drop p)))], []⟩ (by rw [B_ext l p i]) ?_
                    refine RVd_call (fuel := 2) 21 [] #[true, true, true, true, true, true, true, true, true, true, true, true, true, true, true, true, true, true, true, true, true, true, true, true, true, true, false, false] (f := 27) (vs := [.int .i64 (n : Int)]) (dst := (some 79)) (by kernel_rfl) (by kernel_rfl) (by kernel_rfl) E27 (by kernel_rfl) (fun wa hxe hp => f27 (n : Int) _ wa hp (by unfold InR; omega)) ?_
                    rintro S66 w67 v68 _ hx69 rfl
                    refine RVd_take (fuel' := 0) TOK [] [(26, 0), (27, 0)] [6, 7, 8, 9, 85] [] #[true, true, true, true, true, true, true, true, true, true, true, true, true, true, true, true, true, true, true, true, true, true, true, true, true, true, true, true] [(6, .int .i64 0), (7, .int .i64 0), (8, .int .i64 (i : Int)), (9, .int .i64 (n : Int)), (85, .bool (!((B (Lib.itoa (n : Int))).toList == (B ((l.take i).drop p)).toList)))] [] [] (by kernel_rfl) (by kernel_rfl) (by kernel_rfl) (by kernel_rfl) ROL_nil trivial ?_
                    refine RVd_end (by kernel_rfl) ?_
                    refine KE_then ?_
                    refine VC_cond (!((B (Lib.itoa (n : Int))).toList == (B ((l.take i).drop p)).toList)) (by kernel_rfl) (fun h70 => ?_) (fun h70 => ?_)
                    · skip
                      have h70 : ((B (Lib.itoa (n : Int))).toList == (B ((l.take i).drop p)).toList) = false := by simpa using h70
                      replace h70 := B_ne h70
                      refine VC_go (hs := [0, 0]) TOK [6, 7, 8, 9] ⟨[(6, .int .i64 0), (7, .int .i64 (-1)), (8, .int .i64 (i : Int)), (9, .int .i64 (n : Int))], []⟩ [] (by kernel_rfl) (by kernel_rfl) ?_
                      refine VC_ret (ls := []) TOK [] 0 false [] [.int .i64 0, .int .i64 (-1)] [] ([]) rfl (by kernel_rfl) (by kernel_rfl) (fun w9 hx9 => ?_)
                      show ∃ k r, (.tuple #[.int .i64 0, .int .i64 (-1)] : Value) = .tuple #[.int .i64 k, .int .i64 r] ∧ NumR l p e k r
                      exact ⟨0, -1, rfl, num_no2 hJ (by unfold Stops; simp only [Dig]; omega) he (x := (n : Int)) (by simp only [signed, if_true, Bool.false_eq_true, if_false] <;> omega) (by first | exact .inl (by omega) | exact .inr (.inl (by assumption)) | exact .inr (.inr (.inl (by omega))) | exact .inr (.inr (.inr (.inl (by omega)))) | exact .inr (.inr (.inr (.inr (by assumption)))))⟩
                    · skip
                      have h70 : ((B (Lib.itoa (n : Int))).toList == (B ((l.take i).drop p)).toList) = true := by simpa using h70
                      replace h70 := B_eq h70
                      refine VC_skip ?_
                      refine KE_then ?_
                      refine VC_seq ?_
                      refine VC_region 5 rfl ?_
                      refine RV_go (hs := [0, 0, 0]) (c' := 2) (k' := 3) TOK [6, 7, 86, 88] ⟨[(6, .int .i64 0), (7, .int .i64 0), (86, .int .i64 (n : Int)), (88, .int .i64 (IntKind.i64.wrap ((i : Int) + 1)))], []⟩ [] (by kernel_rfl) (by kernel_rfl) ?_
                      refine RV_st ⟨[(6, .int .i64 0), (7, .int .i64 0), (86, .int .i64 (n : Int)), (88, .int .i64 ((i : Int) + 1))], []⟩ (by rw [wrap_id (x := (i : Int) + 1) (by unfold InR; first | omega | (have hu := UInt8.toNat_lt (l.getD i 0); omega))]) ?_
                      refine RV_go (hs := [0, 0]) (c' := 0) (k' := 5) TOK [6, 7] ⟨[(6, .int .i64 (n : Int)), (7, .int .i64 ((i : Int) + 1))], []⟩ [] (by kernel_rfl) (by kernel_rfl) ?_
                      refine RV_end ?_
                      refine KE_then ?_
                      refine VC_ret (ls := []) TOK [] 0 false [] [.int .i64 (n : Int), .int .i64 ((i : Int) + 1)] [] ([]) rfl (by kernel_rfl) (by kernel_rfl) (fun w9 hx9 => ?_)
                      show ∃ k r, (.tuple #[.int .i64 (n : Int), .int .i64 ((i : Int) + 1)] : Value) = .tuple #[.int .i64 k, .int .i64 r] ∧ NumR l p e k r
                      exact ⟨_, _, rfl, num_yes2 hJ (x := (n : Int)) (by simp only [signed, if_true, Bool.false_eq_true, if_false] <;> omega) (by omega) (by assumption) (by omega) (by omega) (by assumption) (by first | rfl | omega)⟩
        · skip
          replace h50 := of_decide_eq_false h50
          refine RV_go (hs := [0, 0, 0, 0, 0, 0, 0, 0, 0]) (c' := 0) (k' := 20) TOK [0, 1, 2, 6, 7, 8, 9, 10, 44] ⟨[(0, .string (B l)), (1, .int .i64 (p : Int)), (2, .int .u8 (e.toNat : Int)), (6, .int .i64 0), (7, .int .i64 0), (8, .int .i64 (i : Int)), (9, .int .i64 (n : Int)), (10, .bool false), (44, .bool false)], []⟩ [] (by kernel_rfl) (by kernel_rfl) ?_
          refine RV_end ?_
          refine KE_then ?_
          refine VC_false (by kernel_rfl) ?_
          refine VC_exit ?_
          refine KE_exit_then ?_
          refine KE_exit_then ?_
          refine KE_exit_here ?_
          refine KE_then ?_
          refine VC_seq ?_
          refine VC_go (hs := [0]) TOK [0, 1, 2, 6, 7, 8, 9, 55] ⟨[(0, .string (B l)), (1, .int .i64 (p : Int)), (2, .int .u8 (e.toNat : Int)), (6, .int .i64 0), (7, .int .i64 0), (8, .int .i64 (i : Int)), (9, .int .i64 (n : Int)), (55, .bool false)], []⟩ [] (by kernel_rfl) (by kernel_rfl) ?_
          refine VC_false (by kernel_rfl) ?_
          refine VC_skip ?_
          refine KE_then ?_
          refine VC_seq ?_
          refine VC_seq ?_
          refine VC_draw MIX [] 28 rfl ?_
          refine RVd_take (fuel' := 23) TOK [] [(0, 0), (1, 0), (2, 0), (3, 0), (4, 0)] [0, 1, 2, 6, 7, 8, 9, 62] [] #[true, true, true, true, true, false, false, false, false, false, false, false, false, false, false, false, false, false, false, false, false, false, false, false, false, false, false, false] [(0, .string (B l)), (1, .int .i64 (p : Int)), (2, .int .u8 (e.toNat : Int)), (6, .int .i64 0), (7, .int .i64 0), (8, .int .i64 (i : Int)), (9, .int .i64 (n : Int)), (62, .bool (decide ((i : Int) ≥ (l.length : Int))))] [] [] (by kernel_rfl) (by kernel_rfl) (by kernel_rfl) (by kernel_rfl) ROL_nil trivial ?_
          refine RVd_case (decide ((i : Int) ≥ (l.length : Int))) (fun bb => ⟨[(0, .string (B l)), (1, .int .i64 (p : Int)), (2, .int .u8 (e.toNat : Int)), (6, .int .i64 0), (7, .int .i64 0), (8, .int .i64 (i : Int)), (9, .int .i64 (n : Int)), (62, .bool bb)], []⟩) (by kernel_rfl) (fun h71 => ?_) (fun h71 => ?_)
          · skip
            replace h71 := of_decide_eq_true h71
            refine RVd_take (fuel' := 0) TOK [] [(5, 0), (6, 0), (7, 0), (8, 0), (9, 0), (10, 0), (11, 0), (12, 0), (13, 0), (14, 0), (15, 0), (16, 0), (17, 0), (18, 0), (19, 0), (20, 0), (21, 0), (22, 0), (23, 0), (24, 0), (25, 0), (26, 0), (27, 0)] [6, 7, 8, 9, 85] [] #[true, true, true, true, true, true, true, true, true, true, true, true, true, true, true, true, true, true, true, true, true, true, true, true, true, true, true, true] [(6, .int .i64 0), (7, .int .i64 0), (8, .int .i64 (i : Int)), (9, .int .i64 (n : Int)), (85, .bool true)] [] [] (by kernel_rfl) (by kernel_rfl) (by kernel_rfl) (by kernel_rfl) ROL_nil trivial ?_
            refine RVd_end (by kernel_rfl) ?_
            refine KE_then ?_
            refine VC_true (by kernel_rfl) ?_
            refine VC_go (hs := [0, 0]) TOK [6, 7, 8, 9] ⟨[(6, .int .i64 0), (7, .int .i64 (-1)), (8, .int .i64 (i : Int)), (9, .int .i64 (n : Int))], []⟩ [] (by kernel_rfl) (by kernel_rfl) ?_
            refine VC_ret (ls := []) TOK [] 0 false [] [.int .i64 0, .int .i64 (-1)] [] ([]) rfl (by kernel_rfl) (by kernel_rfl) (fun w9 hx9 => ?_)
            show ∃ k r, (.tuple #[.int .i64 0, .int .i64 (-1)] : Value) = .tuple #[.int .i64 k, .int .i64 r] ∧ NumR l p e k r
            exact ⟨0, -1, rfl, num_no2 hJ (by unfold Stops; simp only [Dig]; omega) he (x := (n : Int)) (by simp only [signed, if_true, Bool.false_eq_true, if_false] <;> omega) (by first | exact .inl (by omega) | exact .inr (.inl (by assumption)) | exact .inr (.inr (.inl (by omega))) | exact .inr (.inr (.inr (.inl (by omega)))) | exact .inr (.inr (.inr (.inr (by assumption)))))⟩
          · skip
            replace h71 := of_decide_eq_false h71
            refine RVd_take (fuel' := 16) TOK [] [(5, 0), (6, 0), (7, 0), (8, 0), (9, 0), (10, 0), (11, 0)] [0, 1, 6, 7, 8, 9, 69] [] #[true, true, true, true, true, true, true, true, true, true, true, true, false, false, false, false, false, false, false, false, false, false, false, false, false, false, false, false] [(0, .string (B l)), (1, .int .i64 (p : Int)), (6, .int .i64 0), (7, .int .i64 0), (8, .int .i64 (i : Int)), (9, .int .i64 (n : Int)), (69, .bool (((l.getD i 0).toNat : Int) != (e.toNat : Int)))] [] [.lt (i : Int) l.length] (by kernel_rfl) (by kernel_rfl) (by kernel_rfl) (by kernel_rfl) ROL_nil (by simp only [Conds, Cond.holds, and_true]; first | omega | (have hle := hJ.le; omega)) ?_
            refine RVd_case (((l.getD i 0).toNat : Int) != (e.toNat : Int)) (fun bb => ⟨[(0, .string (B l)), (1, .int .i64 (p : Int)), (6, .int .i64 0), (7, .int .i64 0), (8, .int .i64 (i : Int)), (9, .int .i64 (n : Int)), (69, .bool bb)], []⟩) (by kernel_rfl) (fun h72 => ?_) (fun h72 => ?_)
            · skip
              replace h72 := bne_iff_ne.1 h72
              refine RVd_take (fuel' := 0) TOK [] [(12, 0), (13, 0), (14, 0), (15, 0), (16, 0), (17, 0), (18, 0), (19, 0), (20, 0), (21, 0), (22, 0), (23, 0), (24, 0), (25, 0), (26, 0), (27, 0)] [6, 7, 8, 9, 85] [] #[true, true, true, true, true, true, true, true, true, true, true, true, true, true, true, true, true, true, true, true, true, true, true, true, true, true, true, true] [(6, .int .i64 0), (7, .int .i64 0), (8, .int .i64 (i : Int)), (9, .int .i64 (n : Int)), (85, .bool true)] [] [] (by kernel_rfl) (by kernel_rfl) (by kernel_rfl) (by kernel_rfl) ROL_nil trivial ?_
              refine RVd_end (by kernel_rfl) ?_
              refine KE_then ?_
              refine VC_true (by kernel_rfl) ?_
              refine VC_go (hs := [0, 0]) TOK [6, 7, 8, 9] ⟨[(6, .int .i64 0), (7, .int .i64 (-1)), (8, .int .i64 (i : Int)), (9, .int .i64 (n : Int))], []⟩ [] (by kernel_rfl) (by kernel_rfl) ?_
              refine VC_ret (ls := []) TOK [] 0 false [] [.int .i64 0, .int .i64 (-1)] [] ([]) rfl (by kernel_rfl) (by kernel_rfl) (fun w9 hx9 => ?_)
              show ∃ k r, (.tuple #[.int .i64 0, .int .i64 (-1)] : Value) = .tuple #[.int .i64 k, .int .i64 r] ∧ NumR l p e k r
              exact ⟨0, -1, rfl, num_no2 hJ (by unfold Stops; simp only [Dig]; omega) he (x := (n : Int)) (by simp only [signed, if_true, Bool.false_eq_true, if_false] <;> omega) (by first | exact .inl (by omega) | exact .inr (.inl (by assumption)) | exact .inr (.inr (.inl (by omega))) | exact .inr (.inr (.inr (.inl (by omega)))) | exact .inr (.inr (.inr (.inr (by assumption)))))⟩
            · skip
              replace h72 : ((l.getD i 0).toNat : Int) = (e.toNat : Int) := by simpa using h72
              refine RVd_take (fuel' := 12) TOK [] [(12, 0), (13, 0), (14, 0), (15, 0)] [0, 1, 6, 7, 8, 9, 73] [] #[true, true, true, true, true, true, true, true, true, true, true, true, true, true, true, true, false, false, false, false, false, false, false, false, false, false, false, false] [(0, .string (B l)), (1, .int .i64 (p : Int)), (6, .int .i64 0), (7, .int .i64 0), (8, .int .i64 (i : Int)), (9, .int .i64 (n : Int)), (73, .bool (decide ((n : Int) > 4611686018427387904)))] [] [] (by kernel_rfl) (by kernel_rfl) (by kernel_rfl) (by kernel_rfl) ROL_nil trivial ?_
              refine RVd_case (decide ((n : Int) > 4611686018427387904)) (fun bb => ⟨[(0, .string (B l)), (1, .int .i64 (p : Int)), (6, .int .i64 0), (7, .int .i64 0), (8, .int .i64 (i : Int)), (9, .int .i64 (n : Int)), (73, .bool bb)], []⟩) (by kernel_rfl) (fun h73 => ?_) (fun h73 => ?_)
              · skip
                replace h73 := of_decide_eq_true h73
                refine RVd_take (fuel' := 0) TOK [] [(16, 0), (17, 0), (18, 0), (19, 0), (20, 0), (21, 0), (22, 0), (23, 0), (24, 0), (25, 0), (26, 0), (27, 0)] [6, 7, 8, 9, 85] [] #[true, true, true, true, true, true, true, true, true, true, true, true, true, true, true, true, true, true, true, true, true, true, true, true, true, true, true, true] [(6, .int .i64 0), (7, .int .i64 0), (8, .int .i64 (i : Int)), (9, .int .i64 (n : Int)), (85, .bool true)] [] [] (by kernel_rfl) (by kernel_rfl) (by kernel_rfl) (by kernel_rfl) ROL_nil trivial ?_
                refine RVd_end (by kernel_rfl) ?_
                refine KE_then ?_
                refine VC_true (by kernel_rfl) ?_
                refine VC_go (hs := [0, 0]) TOK [6, 7, 8, 9] ⟨[(6, .int .i64 0), (7, .int .i64 (-1)), (8, .int .i64 (i : Int)), (9, .int .i64 (n : Int))], []⟩ [] (by kernel_rfl) (by kernel_rfl) ?_
                refine VC_ret (ls := []) TOK [] 0 false [] [.int .i64 0, .int .i64 (-1)] [] ([]) rfl (by kernel_rfl) (by kernel_rfl) (fun w9 hx9 => ?_)
                show ∃ k r, (.tuple #[.int .i64 0, .int .i64 (-1)] : Value) = .tuple #[.int .i64 k, .int .i64 r] ∧ NumR l p e k r
                exact ⟨0, -1, rfl, num_no2 hJ (by unfold Stops; simp only [Dig]; omega) he (x := (n : Int)) (by simp only [signed, if_true, Bool.false_eq_true, if_false] <;> omega) (by first | exact .inl (by omega) | exact .inr (.inl (by assumption)) | exact .inr (.inr (.inl (by omega))) | exact .inr (.inr (.inr (.inl (by omega)))) | exact .inr (.inr (.inr (.inr (by assumption)))))⟩
              · skip
                replace h73 := of_decide_eq_false h73
                refine RVd_take (fuel' := 8) TOK [] [(16, 0), (17, 0), (18, 0), (19, 0)] [0, 1, 6, 7, 8, 9, 77] [] #[true, true, true, true, true, true, true, true, true, true, true, true, true, true, true, true, true, true, true, true, false, false, false, false, false, false, false, false] [(0, .string (B l)), (1, .int .i64 (p : Int)), (6, .int .i64 0), (7, .int .i64 0), (8, .int .i64 (i : Int)), (9, .int .i64 (n : Int)), (77, .bool (decide ((n : Int) < (-4611686018427387904))))] [] [] (by kernel_rfl) (by kernel_rfl) (by kernel_rfl) (by kernel_rfl) ROL_nil trivial ?_
                refine RVd_case (decide ((n : Int) < (-4611686018427387904))) (fun bb => ⟨[(0, .string (B l)), (1, .int .i64 (p : Int)), (6, .int .i64 0), (7, .int .i64 0), (8, .int .i64 (i : Int)), (9, .int .i64 (n : Int)), (77, .bool bb)], []⟩) (by kernel_rfl) (fun h74 => ?_) (fun h74 => ?_)
                · skip
                  replace h74 := of_decide_eq_true h74
                  refine RVd_take (fuel' := 0) TOK [] [(20, 0), (21, 0), (22, 0), (23, 0), (24, 0), (25, 0), (26, 0), (27, 0)] [6, 7, 8, 9, 85] [] #[true, true, true, true, true, true, true, true, true, true, true, true, true, true, true, true, true, true, true, true, true, true, true, true, true, true, true, true] [(6, .int .i64 0), (7, .int .i64 0), (8, .int .i64 (i : Int)), (9, .int .i64 (n : Int)), (85, .bool true)] [] [] (by kernel_rfl) (by kernel_rfl) (by kernel_rfl) (by kernel_rfl) ROL_nil trivial ?_
                  refine RVd_end (by kernel_rfl) ?_
                  refine KE_then ?_
                  refine VC_true (by kernel_rfl) ?_
                  refine VC_go (hs := [0, 0]) TOK [6, 7, 8, 9] ⟨[(6, .int .i64 0), (7, .int .i64 (-1)), (8, .int .i64 (i : Int)), (9, .int .i64 (n : Int))], []⟩ [] (by kernel_rfl) (by kernel_rfl) ?_
                  refine VC_ret (ls := []) TOK [] 0 false [] [.int .i64 0, .int .i64 (-1)] [] ([]) rfl (by kernel_rfl) (by kernel_rfl) (fun w9 hx9 => ?_)
                  show ∃ k r, (.tuple #[.int .i64 0, .int .i64 (-1)] : Value) = .tuple #[.int .i64 k, .int .i64 r] ∧ NumR l p e k r
                  exact ⟨0, -1, rfl, num_no2 hJ (by unfold Stops; simp only [Dig]; omega) he (x := (n : Int)) (by simp only [signed, if_true, Bool.false_eq_true, if_false] <;> omega) (by first | exact .inl (by omega) | exact .inr (.inl (by assumption)) | exact .inr (.inr (.inl (by omega))) | exact .inr (.inr (.inr (.inl (by omega)))) | exact .inr (.inr (.inr (.inr (by assumption)))))⟩
                · skip
                  replace h74 := of_decide_eq_false h74
                  refine RVd_take (fuel' := 3) TOK [] [(20, 0), (22, 0), (23, 0), (24, 0), (25, 0)] [6, 7, 8, 9, 77, 78, 83] [] #[true, true, true, true, true, true, true, true, true, true, true, true, true, true, true, true, true, true, true, true, true, false, true, true, true, true, false, false] [(6, .int .i64 0), (7, .int .i64 0), (8, .int .i64 (i : Int)), (9, .int .i64 (n : Int)), (77, .bool false), (78, .int .i64 (n : Int)), (83, .string ((B l).extract p i))] [] [.le (i : Int) l.length, .le (p : Int) i] (by kernel_rfl) (by kernel_rfl) (by kernel_rfl) (by kernel_rfl) ROL_nil (by simp only [Conds, Cond.holds, and_true]; first | omega | (have hle := hJ.le; omega)) ?_
                  refine RVd_st ⟨[(6, .int .i64 0), (7, .int .i64 0), (8, .int .i64 (i : Int)), (9, .int .i64 (n : Int)), (77, .bool false), (78, .int .i64 (n : Int)), (83, .string (B ((l.take i).drop p)))], []⟩ (by rw [B_ext l p i]) ?_
                  refine RVd_call (fuel := 2) 21 [] #[true, true, true, true, true, true, true, true, true, true, true, true, true, true, true, true, true, true, true, true, true, true, true, true, true, true, false, false] (f := 27) (vs := [.int .i64 (n : Int)]) (dst := (some 79)) (by kernel_rfl) (by kernel_rfl) (by kernel_rfl) E27 (by kernel_rfl) (fun wa hxe hp => f27 (n : Int) _ wa hp (by unfold InR; omega)) ?_
                  rintro S75 w76 v77 _ hx78 rfl
                  refine RVd_take (fuel' := 0) TOK [] [(26, 0), (27, 0)] [6, 7, 8, 9, 85] [] #[true, true, true, true, true, true, true, true, true, true, true, true, true, true, true, true, true, true, true, true, true, true, true, true, true, true, true, true] [(6, .int .i64 0), (7, .int .i64 0), (8, .int .i64 (i : Int)), (9, .int .i64 (n : Int)), (85, .bool (!((B (Lib.itoa (n : Int))).toList == (B ((l.take i).drop p)).toList)))] [] [] (by kernel_rfl) (by kernel_rfl) (by kernel_rfl) (by kernel_rfl) ROL_nil trivial ?_
                  refine RVd_end (by kernel_rfl) ?_
                  refine KE_then ?_
                  refine VC_cond (!((B (Lib.itoa (n : Int))).toList == (B ((l.take i).drop p)).toList)) (by kernel_rfl) (fun h79 => ?_) (fun h79 => ?_)
                  · skip
                    have h79 : ((B (Lib.itoa (n : Int))).toList == (B ((l.take i).drop p)).toList) = false := by simpa using h79
                    replace h79 := B_ne h79
                    refine VC_go (hs := [0, 0]) TOK [6, 7, 8, 9] ⟨[(6, .int .i64 0), (7, .int .i64 (-1)), (8, .int .i64 (i : Int)), (9, .int .i64 (n : Int))], []⟩ [] (by kernel_rfl) (by kernel_rfl) ?_
                    refine VC_ret (ls := []) TOK [] 0 false [] [.int .i64 0, .int .i64 (-1)] [] ([]) rfl (by kernel_rfl) (by kernel_rfl) (fun w9 hx9 => ?_)
                    show ∃ k r, (.tuple #[.int .i64 0, .int .i64 (-1)] : Value) = .tuple #[.int .i64 k, .int .i64 r] ∧ NumR l p e k r
                    exact ⟨0, -1, rfl, num_no2 hJ (by unfold Stops; simp only [Dig]; omega) he (x := (n : Int)) (by simp only [signed, if_true, Bool.false_eq_true, if_false] <;> omega) (by first | exact .inl (by omega) | exact .inr (.inl (by assumption)) | exact .inr (.inr (.inl (by omega))) | exact .inr (.inr (.inr (.inl (by omega)))) | exact .inr (.inr (.inr (.inr (by assumption)))))⟩
                  · skip
                    have h79 : ((B (Lib.itoa (n : Int))).toList == (B ((l.take i).drop p)).toList) = true := by simpa using h79
                    replace h79 := B_eq h79
                    refine VC_skip ?_
                    refine KE_then ?_
                    refine VC_seq ?_
                    refine VC_region 5 rfl ?_
                    refine RV_go (hs := [0, 0, 0]) (c' := 2) (k' := 3) TOK [6, 7, 86, 88] ⟨[(6, .int .i64 0), (7, .int .i64 0), (86, .int .i64 (n : Int)), (88, .int .i64 (IntKind.i64.wrap ((i : Int) + 1)))], []⟩ [] (by kernel_rfl) (by kernel_rfl) ?_
                    refine RV_st ⟨[(6, .int .i64 0), (7, .int .i64 0), (86, .int .i64 (n : Int)), (88, .int .i64 ((i : Int) + 1))], []⟩ (by rw [wrap_id (x := (i : Int) + 1) (by unfold InR; first | omega | (have hu := UInt8.toNat_lt (l.getD i 0); omega))]) ?_
                    refine RV_go (hs := [0, 0]) (c' := 0) (k' := 5) TOK [6, 7] ⟨[(6, .int .i64 (n : Int)), (7, .int .i64 ((i : Int) + 1))], []⟩ [] (by kernel_rfl) (by kernel_rfl) ?_
                    refine RV_end ?_
                    refine KE_then ?_
                    refine VC_ret (ls := []) TOK [] 0 false [] [.int .i64 (n : Int), .int .i64 ((i : Int) + 1)] [] ([]) rfl (by kernel_rfl) (by kernel_rfl) (fun w9 hx9 => ?_)
                    show ∃ k r, (.tuple #[.int .i64 (n : Int), .int .i64 ((i : Int) + 1)] : Value) = .tuple #[.int .i64 k, .int .i64 r] ∧ NumR l p e k r
                    exact ⟨_, _, rfl, num_yes2 hJ (x := (n : Int)) (by simp only [signed, if_true, Bool.false_eq_true, if_false] <;> omega) (by omega) (by assumption) (by omega) (by omega) (by assumption) (by first | rfl | omega)⟩
      · skip
        replace h49 := of_decide_eq_false h49
        refine RV_go (hs := [0, 0, 0, 0, 0, 0, 0, 0, 0, 0, 0, 0, 0, 0, 0]) (c' := 0) (k' := 20) TOK [0, 1, 2, 6, 7, 8, 9, 10, 44] ⟨[(0, .string (B l)), (1, .int .i64 (p : Int)), (2, .int .u8 (e.toNat : Int)), (6, .int .i64 0), (7, .int .i64 0), (8, .int .i64 (i : Int)), (9, .int .i64 (n : Int)), (10, .bool false), (44, .bool false)], []⟩ [] (by kernel_rfl) (by kernel_rfl) ?_
        refine RV_end ?_
        refine KE_then ?_
        refine VC_false (by kernel_rfl) ?_
        refine VC_exit ?_
        refine KE_exit_then ?_
        refine KE_exit_then ?_
        refine KE_exit_here ?_
        refine KE_then ?_
        refine VC_seq ?_
        refine VC_go (hs := [0]) TOK [0, 1, 2, 6, 7, 8, 9, 55] ⟨[(0, .string (B l)), (1, .int .i64 (p : Int)), (2, .int .u8 (e.toNat : Int)), (6, .int .i64 0), (7, .int .i64 0), (8, .int .i64 (i : Int)), (9, .int .i64 (n : Int)), (55, .bool false)], []⟩ [] (by kernel_rfl) (by kernel_rfl) ?_
        refine VC_false (by kernel_rfl) ?_
        refine VC_skip ?_
        refine KE_then ?_
        refine VC_seq ?_
        refine VC_seq ?_
        refine VC_draw MIX [] 28 rfl ?_
        refine RVd_take (fuel' := 23) TOK [] [(0, 0), (1, 0), (2, 0), (3, 0), (4, 0)] [0, 1, 2, 6, 7, 8, 9, 62] [] #[true, true, true, true, true, false, false, false, false, false, false, false, false, false, false, false, false, false, false, false, false, false, false, false, false, false, false, false] [(0, .string (B l)), (1, .int .i64 (p : Int)), (2, .int .u8 (e.toNat : Int)), (6, .int .i64 0), (7, .int .i64 0), (8, .int .i64 (i : Int)), (9, .int .i64 (n : Int)), (62, .bool (decide ((i : Int) ≥ (l.length : Int))))] [] [] (by kernel_rfl) (by kernel_rfl) (by kernel_rfl) (by kernel_rfl) ROL_nil trivial ?_
        refine RVd_case (decide ((i : Int) ≥ (l.length : Int))) (fun bb => ⟨[(0, .string (B l)), (1, .int .i64 (p : Int)), (2, .int .u8 (e.toNat : Int)), (6, .int .i64 0), (7, .int .i64 0), (8, .int .i64 (i : Int)), (9, .int .i64 (n : Int)), (62, .bool bb)], []⟩) (by kernel_rfl) (fun h80 => ?_) (fun h80 => ?_)
        · skip
          replace h80 := of_decide_eq_true h80
          refine RVd_take (fuel' := 0) TOK [] [(5, 0), (6, 0), (7, 0), (8, 0), (9, 0), (10, 0), (11, 0), (12, 0), (13, 0), (14, 0), (15, 0), (16, 0), (17, 0), (18, 0), (19, 0), (20, 0), (21, 0), (22, 0), (23, 0), (24, 0), (25, 0), (26, 0), (27, 0)] [6, 7, 8, 9, 85] [] #[true, true, true, true, true, true, true, true, true, true, true, true, true, true, true, true, true, true, true, true, true, true, true, true, true, true, true, true] [(6, .int .i64 0), (7, .int .i64 0), (8, .int .i64 (i : Int)), (9, .int .i64 (n : Int)), (85, .bool true)] [] [] (by kernel_rfl) (by kernel_rfl) (by kernel_rfl) (by kernel_rfl) ROL_nil trivial ?_
          refine RVd_end (by kernel_rfl) ?_
          refine KE_then ?_
          refine VC_true (by kernel_rfl) ?_
          refine VC_go (hs := [0, 0]) TOK [6, 7, 8, 9] ⟨[(6, .int .i64 0), (7, .int .i64 (-1)), (8, .int .i64 (i : Int)), (9, .int .i64 (n : Int))], []⟩ [] (by kernel_rfl) (by kernel_rfl) ?_
          refine VC_ret (ls := []) TOK [] 0 false [] [.int .i64 0, .int .i64 (-1)] [] ([]) rfl (by kernel_rfl) (by kernel_rfl) (fun w9 hx9 => ?_)
          show ∃ k r, (.tuple #[.int .i64 0, .int .i64 (-1)] : Value) = .tuple #[.int .i64 k, .int .i64 r] ∧ NumR l p e k r
          exact ⟨0, -1, rfl, num_no2 hJ (by unfold Stops; simp only [Dig]; omega) he (x := (n : Int)) (by simp only [signed, if_true, Bool.false_eq_true, if_false] <;> omega) (by first | exact .inl (by omega) | exact .inr (.inl (by assumption)) | exact .inr (.inr (.inl (by omega))) | exact .inr (.inr (.inr (.inl (by omega)))) | exact .inr (.inr (.inr (.inr (by assumption)))))⟩
        · skip
          replace h80 := of_decide_eq_false h80
          refine RVd_take (fuel' := 16) TOK [] [(5, 0), (6, 0), (7, 0), (8, 0), (9, 0), (10, 0), (11, 0)] [0, 1, 6, 7, 8, 9, 69] [] #[true, true, true, true, true, true, true, true, true, true, true, true, false, false, false, false, false, false, false, false, false, false, false, false, false, false, false, false] [(0, .string (B l)), (1, .int .i64 (p : Int)), (6, .int .i64 0), (7, .int .i64 0), (8, .int .i64 (i : Int)), (9, .int .i64 (n : Int)), (69, .bool (((l.getD i 0).toNat : Int) != (e.toNat : Int)))] [] [.lt (i : Int) l.length] (by kernel_rfl) (by kernel_rfl) (by kernel_rfl) (by kernel_rfl) ROL_nil (by simp only [Conds, Cond.holds, and_true]; first | omega | (have hle := hJ.le; omega)) ?_
          refine RVd_case (((l.getD i 0).toNat : Int) != (e.toNat : Int)) (fun bb => ⟨[(0, .string (B l)), (1, .int .i64 (p : Int)), (6, .int .i64 0), (7, .int .i64 0), (8, .int .i64 (i : Int)), (9, .int .i64 (n : Int)), (69, .bool bb)], []⟩) (by kernel_rfl) (fun h81 => ?_) (fun h81 => ?_)
          · skip
            replace h81 := bne_iff_ne.1 h81
            refine RVd_take (fuel' := 0) TOK [] [(12, 0), (13, 0), (14, 0), (15, 0), (16, 0), (17, 0), (18, 0), (19, 0), (20, 0), (21, 0), (22, 0), (23, 0), (24, 0), (25, 0), (26, 0), (27, 0)] [6, 7, 8, 9, 85] [] #[true, true, true, true, true, true, true, true, true, true, true, true, true, true, true, true, true, true, true, true, true, true, true, true, true, true, true, true] [(6, .int .i64 0), (7, .int .i64 0), (8, .int .i64 (i : Int)), (9, .int .i64 (n : Int)), (85, .bool true)] [] [] (by kernel_rfl) (by kernel_rfl) (by kernel_rfl) (by kernel_rfl) ROL_nil trivial ?_
            refine RVd_end (by kernel_rfl) ?_
            refine KE_then ?_
            refine VC_true (by kernel_rfl) ?_
            refine VC_go (hs := [0, 0]) TOK [6, 7, 8, 9] ⟨[(6, .int .i64 0), (7, .int .i64 (-1)), (8, .int .i64 (i : Int)), (9, .int .i64 (n : Int))], []⟩ [] (by kernel_rfl) (by kernel_rfl) ?_
            refine VC_ret (ls := []) TOK [] 0 false [] [.int .i64 0, .int .i64 (-1)] [] ([]) rfl (by kernel_rfl) (by kernel_rfl) (fun w9 hx9 => ?_)
            show ∃ k r, (.tuple #[.int .i64 0, .int .i64 (-1)] : Value) = .tuple #[.int .i64 k, .int .i64 r] ∧ NumR l p e k r
            exact ⟨0, -1, rfl, num_no2 hJ (by unfold Stops; simp only [Dig]; omega) he (x := (n : Int)) (by simp only [signed, if_true, Bool.false_eq_true, if_false] <;> omega) (by first | exact .inl (by omega) | exact .inr (.inl (by assumption)) | exact .inr (.inr (.inl (by omega))) | exact .inr (.inr (.inr (.inl (by omega)))) | exact .inr (.inr (.inr (.inr (by assumption)))))⟩
          · skip
            replace h81 : ((l.getD i 0).toNat : Int) = (e.toNat : Int) := by simpa using h81
            refine RVd_take (fuel' := 12) TOK [] [(12, 0), (13, 0), (14, 0), (15, 0)] [0, 1, 6, 7, 8, 9, 73] [] #[true, true, true, true, true, true, true, true, true, true, true, true, true, true, true, true, false, false, false, false, false, false, false, false, false, false, false, false] [(0, .string (B l)), (1, .int .i64 (p : Int)), (6, .int .i64 0), (7, .int .i64 0), (8, .int .i64 (i : Int)), (9, .int .i64 (n : Int)), (73, .bool (decide ((n : Int) > 4611686018427387904)))] [] [] (by kernel_rfl) (by kernel_rfl) (by kernel_rfl) (by kernel_rfl) ROL_nil trivial ?_
            refine RVd_case (decide ((n : Int) > 4611686018427387904)) (fun bb => ⟨[(0, .string (B l)), (1, .int .i64 (p : Int)), (6, .int .i64 0), (7, .int .i64 0), (8, .int .i64 (i : Int)), (9, .int .i64 (n : Int)), (73, .bool bb)], []⟩) (by kernel_rfl) (fun h82 => ?_) (fun h82 => ?_)
            · skip
              replace h82 := of_decide_eq_true h82
              refine RVd_take (fuel' := 0) TOK [] [(16, 0), (17, 0), (18, 0), (19, 0), (20, 0), (21, 0), (22, 0), (23, 0), (24, 0), (25, 0), (26, 0), (27, 0)] [6, 7, 8, 9, 85] [] #[true, true, true, true, true, true, true, true, true, true, true, true, true, true, true, true, true, true, true, true, true, true, true, true, true, true, true, true] [(6, .int .i64 0), (7, .int .i64 0), (8, .int .i64 (i : Int)), (9, .int .i64 (n : Int)), (85, .bool true)] [] [] (by kernel_rfl) (by kernel_rfl) (by kernel_rfl) (by kernel_rfl) ROL_nil trivial ?_
              refine RVd_end (by kernel_rfl) ?_
              refine KE_then ?_
              refine VC_true (by kernel_rfl) ?_
              refine VC_go (hs := [0, 0]) TOK [6, 7, 8, 9] ⟨[(6, .int .i64 0), (7, .int .i64 (-1)), (8, .int .i64 (i : Int)), (9, .int .i64 (n : Int))], []⟩ [] (by kernel_rfl) (by kernel_rfl) ?_
              refine VC_ret (ls := []) TOK [] 0 false [] [.int .i64 0, .int .i64 (-1)] [] ([]) rfl (by kernel_rfl) (by kernel_rfl) (fun w9 hx9 => ?_)
              show ∃ k r, (.tuple #[.int .i64 0, .int .i64 (-1)] : Value) = .tuple #[.int .i64 k, .int .i64 r] ∧ NumR l p e k r
              exact ⟨0, -1, rfl, num_no2 hJ (by unfold Stops; simp only [Dig]; omega) he (x := (n : Int)) (by simp only [signed, if_true, Bool.false_eq_true, if_false] <;> omega) (by first | exact .inl (by omega) | exact .inr (.inl (by assumption)) | exact .inr (.inr (.inl (by omega))) | exact .inr (.inr (.inr (.inl (by omega)))) | exact .inr (.inr (.inr (.inr (by assumption)))))⟩
            · skip
              replace h82 := of_decide_eq_false h82
              refine RVd_take (fuel' := 8) TOK [] [(16, 0), (17, 0), (18, 0), (19, 0)] [0, 1, 6, 7, 8, 9, 77] [] #[true, true, true, true, true, true, true, true, true, true, true, true, true, true, true, true, true, true, true, true, false, false, false, false, false, false, false, false] [(0, .string (B l)), (1, .int .i64 (p : Int)), (6, .int .i64 0), (7, .int .i64 0), (8, .int .i64 (i : Int)), (9, .int .i64 (n : Int)), (77, .bool (decide ((n : Int) < (-4611686018427387904))))] [] [] (by kernel_rfl) (by kernel_rfl) (by kernel_rfl) (by kernel_rfl) ROL_nil trivial ?_
              refine RVd_case (decide ((n : Int) < (-4611686018427387904))) (fun bb => ⟨[(0, .string (B l)), (1, .int .i64 (p : Int)), (6, .int .i64 0), (7, .int .i64 0), (8, .int .i64 (i : Int)), (9, .int .i64 (n : Int)), (77, .bool bb)], []⟩) (by kernel_rfl) (fun h83 => ?_) (fun h83 => ?_)
              · skip
                replace h83 := of_decide_eq_true h83
                refine RVd_take (fuel' := 0) TOK [] [(20, 0), (21, 0), (22, 0), (23, 0), (24, 0), (25, 0), (26, 0), (27, 0)] [6, 7, 8, 9, 85] [] #[true, true, true, true, true, true, true, true, true, true, true, true, true, true, true, true, true, true, true, true, true, true, true, true, true, true, true, true] [(6, .int .i64 0), (7, .int .i64 0), (8, .int .i64 (i : Int)), (9, .int .i64 (n : Int)), (85, .bool true)] [] [] (by kernel_rfl) (by kernel_rfl) (by kernel_rfl) (by kernel_rfl) ROL_nil trivial ?_
                refine RVd_end (by kernel_rfl) ?_
                refine KE_then ?_
                refine VC_true (by kernel_rfl) ?_
                refine VC_go (hs := [0, 0]) TOK [6, 7, 8, 9] ⟨[(6, .int .i64 0), (7, .int .i64 (-1)), (8, .int .i64 (i : Int)), (9, .int .i64 (n : Int))], []⟩ [] (by kernel_rfl) (by kernel_rfl) ?_
                refine VC_ret (ls := []) TOK [] 0 false [] [.int .i64 0, .int .i64 (-1)] [] ([]) rfl (by kernel_rfl) (by kernel_rfl) (fun w9 hx9 => ?_)
                show ∃ k r, (.tuple #[.int .i64 0, .int .i64 (-1)] : Value) = .tuple #[.int .i64 k, .int .i64 r] ∧ NumR l p e k r
                exact ⟨0, -1, rfl, num_no2 hJ (by unfold Stops; simp only [Dig]; omega) he (x := (n : Int)) (by simp only [signed, if_true, Bool.false_eq_true, if_false] <;> omega) (by first | exact .inl (by omega) | exact .inr (.inl (by assumption)) | exact .inr (.inr (.inl (by omega))) | exact .inr (.inr (.inr (.inl (by omega)))) | exact .inr (.inr (.inr (.inr (by assumption)))))⟩
              · skip
                replace h83 := of_decide_eq_false h83
                refine RVd_take (fuel' := 3) TOK [] [(20, 0), (22, 0), (23, 0), (24, 0), (25, 0)] [6, 7, 8, 9, 77, 78, 83] [] #[true, true, true, true, true, true, true, true, true, true, true, true, true, true, true, true, true, true, true, true, true, false, true, true, true, true, false, false] [(6, .int .i64 0), (7, .int .i64 0), (8, .int .i64 (i : Int)), (9, .int .i64 (n : Int)), (77, .bool false), (78, .int .i64 (n : Int)), (83, .string ((B l).extract p i))] [] [.le (i : Int) l.length, .le (p : Int) i] (by kernel_rfl) (by kernel_rfl) (by kernel_rfl) (by kernel_rfl) ROL_nil (by simp only [Conds, Cond.holds, and_true]; first | omega | (have hle := hJ.le; omega)) ?_
                refine RVd_st ⟨[(6, .int .i64 0), (7, .int .i64 0), (8, .int .i64 (i : Int)), (9, .int .i64 (n : Int)), (77, .bool false), (78, .int .i64 (n : Int)), (83, .string (B ((l.take i).drop p)))], []⟩ (by rw [B_ext l p i]) ?_
                refine RVd_call (fuel := 2) 21 [] #[true, true, true, true, true, true, true, true, true, true, true, true, true, true, true, true, true, true, true, true, true, true, true, true, true, true, false, false] (f := 27) (vs := [.int .i64 (n : Int)]) (dst := (some 79)) (by kernel_rfl) (by kernel_rfl) (by kernel_rfl) E27 (by kernel_rfl) (fun wa hxe hp => f27 (n : Int) _ wa hp (by unfold InR; omega)) ?_
                rintro S84 w85 v86 _ hx87 rfl
                refine RVd_take (fuel' := 0) TOK [] [(26, 0), (27, 0)] [6, 7, 8, 9, 85] [] #[true, true, true, true, true, true, true, true, true, true, true, true, true, true, true, true, true, true, true, true, true, true, true, true, true, true, true, true] [(6, .int .i64 0), (7, .int .i64 0), (8, .int .i64 (i : Int)), (9, .int .i64 (n : Int)), (85, .bool (!((B (Lib.itoa (n : Int))).toList == (B ((l.take i).drop p)).toList)))] [] [] (by kernel_rfl) (by kernel_rfl) (by kernel_rfl) (by kernel_rfl) ROL_nil trivial ?_
                refine RVd_end (by kernel_rfl) ?_
                refine KE_then ?_
                refine VC_cond (!((B (Lib.itoa (n : Int))).toList == (B ((l.take i).drop p)).toList)) (by kernel_rfl) (fun h88 => ?_) (fun h88 => ?_)
                · skip
                  have h88 : ((B (Lib.itoa (n : Int))).toList == (B ((l.take i).drop p)).toList) = false := by simpa using h88
                  replace h88 := B_ne h88
                  refine VC_go (hs := [0, 0]) TOK [6, 7, 8, 9] ⟨[(6, .int .i64 0), (7, .int .i64 (-1)), (8, .int .i64 (i : Int)), (9, .int .i64 (n : Int))], []⟩ [] (by kernel_rfl) (by kernel_rfl) ?_
                  refine VC_ret (ls := []) TOK [] 0 false [] [.int .i64 0, .int .i64 (-1)] [] ([]) rfl (by kernel_rfl) (by kernel_rfl) (fun w9 hx9 => ?_)
                  show ∃ k r, (.tuple #[.int .i64 0, .int .i64 (-1)] : Value) = .tuple #[.int .i64 k, .int .i64 r] ∧ NumR l p e k r
                  exact ⟨0, -1, rfl, num_no2 hJ (by unfold Stops; simp only [Dig]; omega) he (x := (n : Int)) (by simp only [signed, if_true, Bool.false_eq_true, if_false] <;> omega) (by first | exact .inl (by omega) | exact .inr (.inl (by assumption)) | exact .inr (.inr (.inl (by omega))) | exact .inr (.inr (.inr (.inl (by omega)))) | exact .inr (.inr (.inr (.inr (by assumption)))))⟩
                · skip
                  have h88 : ((B (Lib.itoa (n : Int))).toList == (B ((l.take i).drop p)).toList) = true := by simpa using h88
                  replace h88 := B_eq h88
                  refine VC_skip ?_
                  refine KE_then ?_
                  refine VC_seq ?_
                  refine VC_region 5 rfl ?_
                  refine RV_go (hs := [0, 0, 0]) (c' := 2) (k' := 3) TOK [6, 7, 86, 88] ⟨[(6, .int .i64 0), (7, .int .i64 0), (86, .int .i64 (n : Int)), (88, .int .i64 (IntKind.i64.wrap ((i : Int) + 1)))], []⟩ [] (by kernel_rfl) (by kernel_rfl) ?_
                  refine RV_st ⟨[(6, .int .i64 0), (7, .int .i64 0), (86, .int .i64 (n : Int)), (88, .int .i64 ((i : Int) + 1))], []⟩ (by rw [wrap_id (x := (i : Int) + 1) (by unfold InR; first | omega | (have hu := UInt8.toNat_lt (l.getD i 0); omega))]) ?_
                  refine RV_go (hs := [0, 0]) (c' := 0) (k' := 5) TOK [6, 7] ⟨[(6, .int .i64 (n : Int)), (7, .int .i64 ((i : Int) + 1))], []⟩ [] (by kernel_rfl) (by kernel_rfl) ?_
                  refine RV_end ?_
                  refine KE_then ?_
                  refine VC_ret (ls := []) TOK [] 0 false [] [.int .i64 (n : Int), .int .i64 ((i : Int) + 1)] [] ([]) rfl (by kernel_rfl) (by kernel_rfl) (fun w9 hx9 => ?_)
                  show ∃ k r, (.tuple #[.int .i64 (n : Int), .int .i64 ((i : Int) + 1)] : Value) = .tuple #[.int .i64 k, .int .i64 r] ∧ NumR l p e k r
                  exact ⟨_, _, rfl, num_yes2 hJ (x := (n : Int)) (by simp only [signed, if_true, Bool.false_eq_true, if_false] <;> omega) (by omega) (by assumption) (by omega) (by omega) (by assumption) (by first | rfl | omega)⟩
  · skip
    replace h1 := of_decide_eq_false h1
    refine RV_go (hs := [0, 0, 0, 0, 0, 0]) (c' := 0) (k' := 11) TOK [0, 1, 2, 6, 7, 8, 9, 10] ⟨[(0, .string (B l)), (1, .int .i64 (p : Int)), (2, .int .u8 (e.toNat : Int)), (6, .int .i64 0), (7, .int .i64 0), (8, .int .i64 (p : Int)), (9, .int .i64 0), (10, .bool false)], []⟩ [] (by kernel_rfl) (by kernel_rfl) ?_
    refine RV_end ?_
    refine KE_then ?_
    refine VC_seq ?_
    refine VC_go (hs := [0]) TOK [0, 1, 2, 6, 7, 8, 9, 10, 22] ⟨[(0, .string (B l)), (1, .int .i64 (p : Int)), (2, .int .u8 (e.toNat : Int)), (6, .int .i64 0), (7, .int .i64 0), (8, .int .i64 (p : Int)), (9, .int .i64 0), (10, .bool false), (22, .bool false)], []⟩ [] (by kernel_rfl) (by kernel_rfl) ?_
    refine VC_false (by kernel_rfl) ?_
    refine VC_skip ?_
    refine KE_then ?_
    refine VC_seq ?_
    refine VC_block ?_
    refine VC_keep [0, 1, 2, 6, 7, 8, 9, 10] [] 0 ⟨[(0, .string (B l)), (1, .int .i64 (p : Int)), (2, .int .u8 (e.toNat : Int)), (6, .int .i64 0), (7, .int .i64 0), (8, .int .i64 (p : Int)), (9, .int .i64 (0 : Int)), (10, .bool false)], []⟩ (by kernel_rfl) (by kernel_rfl) ?_
    refine VC_loop (J := fun m_ S' w' st_ => ∃ (i : Nat) (n : Nat), (NumJ l p p i n false) ∧ (n ≤ 4611686018427387919) ∧ m_ = l.length - i ∧ Ext S w S' w' ∧ st_ = ⟨[(0, .string (B l)), (1, .int .i64 (p : Int)), (2, .int .u8 (e.toNat : Int)), (6, .int .i64 0), (7, .int .i64 0), (8, .int .i64 (i : Int)), (9, .int .i64 (n : Int)), (10, .bool false)], []⟩) (l.length - p) ⟨p, 0, (by exact num_start hpl false (sign_no (by first | exact .inl (by omega) | exact .inr (by assumption))) (by simp <;> omega)), (by exact Nat.zero_le _), rfl, Ext.refl _ _, rfl⟩ ?_
    rintro _ S89 w90 _ ⟨i, n, hJ, hn, rfl, hx91, rfl⟩
    -- a round
    refine VC_seq ?_
    refine VC_seq ?_
    refine VC_region 20 rfl ?_
    refine RV_go (hs := [0, 0, 0, 0, 0]) (c' := 15) (k' := 5) TOK [0, 1, 2, 6, 7, 8, 9, 10, 29] ⟨[(0, .string (B l)), (1, .int .i64 (p : Int)), (2, .int .u8 (e.toNat : Int)), (6, .int .i64 0), (7, .int .i64 0), (8, .int .i64 (i : Int)), (9, .int .i64 (n : Int)), (10, .bool false), (29, .bool (decide ((i : Int) < (l.length : Int))))], []⟩ [] (by kernel_rfl) (by kernel_rfl) ?_
    refine RV_case (decide ((i : Int) < (l.length : Int))) (fun bb => ⟨[(0, .string (B l)), (1, .int .i64 (p : Int)), (2, .int .u8 (e.toNat : Int)), (6, .int .i64 0), (7, .int .i64 0), (8, .int .i64 (i : Int)), (9, .int .i64 (n : Int)), (10, .bool false), (29, .bool bb)], []⟩) (by kernel_rfl) (fun h92 => ?_) (fun h92 => ?_)
    · skip
      replace h92 := of_decide_eq_true h92
      refine RV_run (hs := [0, 0, 0, 0, 0, 0]) (c' := 9) (k' := 11) TOK [] [0, 1, 2, 6, 7, 8, 9, 10, 35] ⟨[(0, .string (B l)), (1, .int .i64 (p : Int)), (2, .int .u8 (e.toNat : Int)), (6, .int .i64 0), (7, .int .i64 0), (8, .int .i64 (i : Int)), (9, .int .i64 (n : Int)), (10, .bool false), (35, .bool (decide (((l.getD i 0).toNat : Int) ≥ 48)))], []⟩ [] [.lt (i : Int) l.length] (by kernel_rfl) (by kernel_rfl) ROS_nil (by simp only [Conds, Cond.holds, and_true]; first | omega | (have hle := hJ.le; omega)) ?_
      refine RV_case (decide (((l.getD i 0).toNat : Int) ≥ 48)) (fun bb => ⟨[(0, .string (B l)), (1, .int .i64 (p : Int)), (2, .int .u8 (e.toNat : Int)), (6, .int .i64 0), (7, .int .i64 0), (8, .int .i64 (i : Int)), (9, .int .i64 (n : Int)), (10, .bool false), (35, .bool bb)], []⟩) (by kernel_rfl) (fun h93 => ?_) (fun h93 => ?_)
      · skip
        replace h93 := of_decide_eq_true h93
        refine RV_run (hs := [0, 0, 0, 0, 0, 0]) (c' := 3) (k' := 17) TOK [] [0, 1, 2, 6, 7, 8, 9, 10, 41] ⟨[(0, .string (B l)), (1, .int .i64 (p : Int)), (2, .int .u8 (e.toNat : Int)), (6, .int .i64 0), (7, .int .i64 0), (8, .int .i64 (i : Int)), (9, .int .i64 (n : Int)), (10, .bool false), (41, .bool (decide (((l.getD i 0).toNat : Int) ≤ 57)))], []⟩ [] [.lt (i : Int) l.length] (by kernel_rfl) (by kernel_rfl) ROS_nil (by simp only [Conds, Cond.holds, and_true]; first | omega | (have hle := hJ.le; omega)) ?_
        refine RV_case (decide (((l.getD i 0).toNat : Int) ≤ 57)) (fun bb => ⟨[(0, .string (B l)), (1, .int .i64 (p : Int)), (2, .int .u8 (e.toNat : Int)), (6, .int .i64 0), (7, .int .i64 0), (8, .int .i64 (i : Int)), (9, .int .i64 (n : Int)), (10, .bool false), (41, .bool bb)], []⟩) (by kernel_rfl) (fun h94 => ?_) (fun h94 => ?_)
        · skip
          replace h94 := of_decide_eq_true h94
          refine RV_go (hs := [0, 0, 0]) (c' := 0) (k' := 20) TOK [0, 1, 2, 6, 7, 8, 9, 10, 44] ⟨[(0, .string (B l)), (1, .int .i64 (p : Int)), (2, .int .u8 (e.toNat : Int)), (6, .int .i64 0), (7, .int .i64 0), (8, .int .i64 (i : Int)), (9, .int .i64 (n : Int)), (10, .bool false), (44, .bool (decide ((n : Int) ≤ 461168601842738791)))], []⟩ [] (by kernel_rfl) (by kernel_rfl) ?_
          refine RV_end ?_
          refine KE_then ?_
          refine VC_cond (decide ((n : Int) ≤ 461168601842738791)) (by kernel_rfl) (fun h95 => ?_) (fun h95 => ?_)
          · skip
            replace h95 := of_decide_eq_true h95
            refine VC_skip ?_
            refine KE_then ?_
            refine VC_block ?_
            refine VC_seq ?_
            refine VC_region 9 rfl ?_
            refine RV_go (hs := [0, 0]) (c' := 7) (k' := 2) TOK [0, 1, 2, 6, 7, 8, 9, 10, 46] ⟨[(0, .string (B l)), (1, .int .i64 (p : Int)), (2, .int .u8 (e.toNat : Int)), (6, .int .i64 0), (7, .int .i64 0), (8, .int .i64 (i : Int)), (9, .int .i64 (n : Int)), (10, .bool false), (46, .int .i64 (IntKind.i64.wrap (10 * (n : Int))))], []⟩ [] (by kernel_rfl) (by kernel_rfl) ?_
            refine RV_st ⟨[(0, .string (B l)), (1, .int .i64 (p : Int)), (2, .int .u8 (e.toNat : Int)), (6, .int .i64 0), (7, .int .i64 0), (8, .int .i64 (i : Int)), (9, .int .i64 (n : Int)), (10, .bool false), (46, .int .i64 (10 * (n : Int)))], []⟩ (by rw [wrap_id (x := 10 * (n : Int)) (by unfold InR; first | omega | (have hu := UInt8.toNat_lt (l.getD i 0); omega))]) ?_
            refine RV_run (hs := [0, 0, 0, 0]) (c' := 3) (k' := 6) TOK [] [0, 1, 2, 6, 7, 8, 9, 10, 46, 50] ⟨[(0, .string (B l)), (1, .int .i64 (p : Int)), (2, .int .u8 (e.toNat : Int)), (6, .int .i64 0), (7, .int .i64 0), (8, .int .i64 (i : Int)), (9, .int .i64 (n : Int)), (10, .bool false), (46, .int .i64 (10 * (n : Int))), (50, .int .i64 (IntKind.i64.wrap ((l.getD i 0).toNat : Int)))], []⟩ [] [.lt (i : Int) l.length] (by kernel_rfl) (by kernel_rfl) ROS_nil (by simp only [Conds, Cond.holds, and_true]; first | omega | (have hle := hJ.le; omega)) ?_
            refine RV_st ⟨[(0, .string (B l)), (1, .int .i64 (p : Int)), (2, .int .u8 (e.toNat : Int)), (6, .int .i64 0), (7, .int .i64 0), (8, .int .i64 (i : Int)), (9, .int .i64 (n : Int)), (10, .bool false), (46, .int .i64 (10 * (n : Int))), (50, .int .i64 ((l.getD i 0).toNat : Int))], []⟩ (by rw [wrap_id (x := ((l.getD i 0).toNat : Int)) (by unfold InR; first | omega | (have hu := UInt8.toNat_lt (l.getD i 0); omega))]) ?_
            refine RV_go (hs := [0]) (c' := 2) (k' := 7) TOK [0, 1, 2, 6, 7, 8, 9, 10, 51] ⟨[(0, .string (B l)), (1, .int .i64 (p : Int)), (2, .int .u8 (e.toNat : Int)), (6, .int .i64 0), (7, .int .i64 0), (8, .int .i64 (i : Int)), (9, .int .i64 (n : Int)), (10, .bool false), (51, .int .i64 (IntKind.i64.wrap ((10 * (n : Int)) + ((l.getD i 0).toNat : Int))))], []⟩ [] (by kernel_rfl) (by kernel_rfl) ?_
            refine RV_st ⟨[(0, .string (B l)), (1, .int .i64 (p : Int)), (2, .int .u8 (e.toNat : Int)), (6, .int .i64 0), (7, .int .i64 0), (8, .int .i64 (i : Int)), (9, .int .i64 (n : Int)), (10, .bool false), (51, .int .i64 ((10 * (n : Int)) + ((l.getD i 0).toNat : Int)))], []⟩ (by rw [wrap_id (x := (10 * (n : Int)) + ((l.getD i 0).toNat : Int)) (by unfold InR; first | omega | (have hu := UInt8.toNat_lt (l.getD i 0); omega))]) ?_
            refine RV_go (hs := [0]) (c' := 1) (k' := 8) TOK [0, 1, 2, 6, 7, 8, 9, 10, 52] ⟨[(0, .string (B l)), (1, .int .i64 (p : Int)), (2, .int .u8 (e.toNat : Int)), (6, .int .i64 0), (7, .int .i64 0), (8, .int .i64 (i : Int)), (9, .int .i64 (n : Int)), (10, .bool false), (52, .int .i64 (IntKind.i64.wrap (((10 * (n : Int)) + ((l.getD i 0).toNat : Int)) - 48)))], []⟩ [] (by kernel_rfl) (by kernel_rfl) ?_
            refine RV_st ⟨[(0, .string (B l)), (1, .int .i64 (p : Int)), (2, .int .u8 (e.toNat : Int)), (6, .int .i64 0), (7, .int .i64 0), (8, .int .i64 (i : Int)), (9, .int .i64 (n : Int)), (10, .bool false), (52, .int .i64 (((10 * (n : Int)) + ((l.getD i 0).toNat : Int)) - 48))], []⟩ (by rw [wrap_id (x := ((10 * (n : Int)) + ((l.getD i 0).toNat : Int)) - 48) (by unfold InR; first | omega | (have hu := UInt8.toNat_lt (l.getD i 0); omega))]) ?_
            refine RV_go (hs := [0]) (c' := 0) (k' := 9) TOK [0, 1, 2, 6, 7, 8, 9, 10] ⟨[(0, .string (B l)), (1, .int .i64 (p : Int)), (2, .int .u8 (e.toNat : Int)), (6, .int .i64 0), (7, .int .i64 0), (8, .int .i64 (i : Int)), (9, .int .i64 (((10 * (n : Int)) + ((l.getD i 0).toNat : Int)) - 48)), (10, .bool false)], []⟩ [] (by kernel_rfl) (by kernel_rfl) ?_
            refine RV_end ?_
            refine KE_then ?_
            refine VC_region 3 rfl ?_
            refine RV_go (hs := [0, 0]) (c' := 1) (k' := 2) TOK [0, 1, 2, 6, 7, 8, 9, 10, 54] ⟨[(0, .string (B l)), (1, .int .i64 (p : Int)), (2, .int .u8 (e.toNat : Int)), (6, .int .i64 0), (7, .int .i64 0), (8, .int .i64 (i : Int)), (9, .int .i64 (((10 * (n : Int)) + ((l.getD i 0).toNat : Int)) - 48)), (10, .bool false), (54, .int .i64 (IntKind.i64.wrap ((i : Int) + 1)))], []⟩ [] (by kernel_rfl) (by kernel_rfl) ?_
            refine RV_st ⟨[(0, .string (B l)), (1, .int .i64 (p : Int)), (2, .int .u8 (e.toNat : Int)), (6, .int .i64 0), (7, .int .i64 0), (8, .int .i64 (i : Int)), (9, .int .i64 (((10 * (n : Int)) + ((l.getD i 0).toNat : Int)) - 48)), (10, .bool false), (54, .int .i64 ((i : Int) + 1))], []⟩ (by rw [wrap_id (x := (i : Int) + 1) (by unfold InR; first | omega | (have hu := UInt8.toNat_lt (l.getD i 0); omega))]) ?_
            refine RV_go (hs := [0]) (c' := 0) (k' := 3) TOK [0, 1, 2, 6, 7, 8, 9, 10] ⟨[(0, .string (B l)), (1, .int .i64 (p : Int)), (2, .int .u8 (e.toNat : Int)), (6, .int .i64 0), (7, .int .i64 0), (8, .int .i64 ((i : Int) + 1)), (9, .int .i64 (((10 * (n : Int)) + ((l.getD i 0).toNat : Int)) - 48)), (10, .bool false)], []⟩ [] (by kernel_rfl) (by kernel_rfl) ?_
            refine RV_end ?_
            refine KE_block ?_
            refine KE_st ⟨[(0, .string (B l)), (1, .int .i64 (p : Int)), (2, .int .u8 (e.toNat : Int)), (6, .int .i64 0), (7, .int .i64 0), (8, .int .i64 ((i : Int) + 1)), (9, .int .i64 ((10 * n + ((l.getD i 0).toNat - 48) : Nat) : Int)), (10, .bool false)], []⟩ (by rw [show ((10 * (n : Int)) + ((l.getD i 0).toNat : Int)) - 48 = ((10 * n + ((l.getD i 0).toNat - 48) : Nat) : Int) from by omega]) ?_
            refine KE_rnd (l.length - (i + 1)) [0, 1, 2, 6, 7, 8, 9, 10] [] 0 ⟨[(0, .string (B l)), (1, .int .i64 (p : Int)), (2, .int .u8 (e.toNat : Int)), (6, .int .i64 0), (7, .int .i64 0), (8, .int .i64 (((i + 1) : Nat) : Int)), (9, .int .i64 (((10 * n + ((l.getD i 0).toNat - 48)) : Nat) : Int)), (10, .bool false)], []⟩ (by kernel_rfl) (by kernel_rfl) (by omega) ⟨(i + 1), (10 * n + ((l.getD i 0).toNat - 48)), (by exact num_next hJ (by omega) (by omega)), (by omega), rfl, hx91, rfl⟩
          · skip
            replace h95 := of_decide_eq_false h95
            refine VC_exit ?_
            refine KE_exit_then ?_
            refine KE_exit_then ?_
            refine KE_exit_here ?_
            refine KE_then ?_
            refine VC_seq ?_
            refine VC_go (hs := [0]) TOK [0, 1, 2, 6, 7, 8, 9, 55] ⟨[(0, .string (B l)), (1, .int .i64 (p : Int)), (2, .int .u8 (e.toNat : Int)), (6, .int .i64 0), (7, .int .i64 0), (8, .int .i64 (i : Int)), (9, .int .i64 (n : Int)), (55, .bool false)], []⟩ [] (by kernel_rfl) (by kernel_rfl) ?_
            refine VC_false (by kernel_rfl) ?_
            refine VC_skip ?_
            refine KE_then ?_
            refine VC_seq ?_
            refine VC_seq ?_
            refine VC_draw MIX [] 28 rfl ?_
            refine RVd_take (fuel' := 23) TOK [] [(0, 0), (1, 0), (2, 0), (3, 0), (4, 0)] [0, 1, 2, 6, 7, 8, 9, 62] [] #[true, true, true, true, true, false, false, false, false, false, false, false, false, false, false, false, false, false, false, false, false, false, false, false, false, false, false, false] [(0, .string (B l)), (1, .int .i64 (p : Int)), (2, .int .u8 (e.toNat : Int)), (6, .int .i64 0), (7, .int .i64 0), (8, .int .i64 (i : Int)), (9, .int .i64 (n : Int)), (62, .bool (decide ((i : Int) ≥ (l.length : Int))))] [] [] (by kernel_rfl) (by kernel_rfl) (by kernel_rfl) (by kernel_rfl) ROL_nil trivial ?_
            refine RVd_case (decide ((i : Int) ≥ (l.length : Int))) (fun bb => ⟨[(0, .string (B l)), (1, .int .i64 (p : Int)), (2, .int .u8 (e.toNat : Int)), (6, .int .i64 0), (7, .int .i64 0), (8, .int .i64 (i : Int)), (9, .int .i64 (n : Int)), (62, .bool bb)], []⟩) (by kernel_rfl) (fun h96 => ?_) (fun h96 => ?_)
            · skip
              replace h96 := of_decide_eq_true h96
              refine RVd_take (fuel' := 0) TOK [] [(5, 0), (6, 0), (7, 0), (8, 0), (9, 0), (10, 0), (11, 0), (12, 0), (13, 0), (14, 0), (15, 0), (16, 0), (17, 0), (18, 0), (19, 0), (20, 0), (21, 0), (22, 0), (23, 0), (24, 0), (25, 0), (26, 0), (27, 0)] [6, 7, 8, 9, 85] [] #[true, true, true, true, true, true, true, true, true, true, true, true, true, true, true, true, true, true, true, true, true, true, true, true, true, true, true, true] [(6, .int .i64 0), (7, .int .i64 0), (8, .int .i64 (i : Int)), (9, .int .i64 (n : Int)), (85, .bool true)] [] [] (by kernel_rfl) (by kernel_rfl) (by kernel_rfl) (by kernel_rfl) ROL_nil trivial ?_
              refine RVd_end (by kernel_rfl) ?_
              refine KE_then ?_
              refine VC_true (by kernel_rfl) ?_
              refine VC_go (hs := [0, 0]) TOK [6, 7, 8, 9] ⟨[(6, .int .i64 0), (7, .int .i64 (-1)), (8, .int .i64 (i : Int)), (9, .int .i64 (n : Int))], []⟩ [] (by kernel_rfl) (by kernel_rfl) ?_
              refine VC_ret (ls := []) TOK [] 0 false [] [.int .i64 0, .int .i64 (-1)] [] ([]) rfl (by kernel_rfl) (by kernel_rfl) (fun w9 hx9 => ?_)
              show ∃ k r, (.tuple #[.int .i64 0, .int .i64 (-1)] : Value) = .tuple #[.int .i64 k, .int .i64 r] ∧ NumR l p e k r
              exact ⟨0, -1, rfl, num_no2 hJ (by unfold Stops; simp only [Dig]; omega) he (x := (n : Int)) (by simp only [signed, if_true, Bool.false_eq_true, if_false] <;> omega) (by first | exact .inl (by omega) | exact .inr (.inl (by assumption)) | exact .inr (.inr (.inl (by omega))) | exact .inr (.inr (.inr (.inl (by omega)))) | exact .inr (.inr (.inr (.inr (by assumption)))))⟩
            · skip
              replace h96 := of_decide_eq_false h96
              refine RVd_take (fuel' := 16) TOK [] [(5, 0), (6, 0), (7, 0), (8, 0), (9, 0), (10, 0), (11, 0)] [0, 1, 6, 7, 8, 9, 69] [] #[true, true, true, true, true, true, true, true, true, true, true, true, false, false, false, false, false, false, false, false, false, false, false, false, false, false, false, false] [(0, .string (B l)), (1, .int .i64 (p : Int)), (6, .int .i64 0), (7, .int .i64 0), (8, .int .i64 (i : Int)), (9, .int .i64 (n : Int)), (69, .bool (((l.getD i 0).toNat : Int) != (e.toNat : Int)))] [] [.lt (i : Int) l.length] (by kernel_rfl) (by kernel_rfl) (by kernel_rfl) (by kernel_rfl) ROL_nil (by simp only [Conds, Cond.holds, and_true]; first | omega | (have hle := hJ.le; omega)) ?_
              refine RVd_case (((l.getD i 0).toNat : Int) != (e.toNat : Int)) (fun bb => ⟨[(0, .string (B l)), (1, .int .i64 (p : Int)), (6, .int .i64 0), (7, .int .i64 0), (8, .int .i64 (i : Int)), (9, .int .i64 (n : Int)), (69, .bool bb)], []⟩) (by kernel_rfl) (fun h97 => ?_) (fun h97 => ?_)
              · skip
                replace h97 := bne_iff_ne.1 h97
                refine RVd_take (fuel' := 0) TOK [] [(12, 0), (13, 0), (14, 0), (15, 0), (16, 0), (17, 0), (18, 0), (19, 0), (20, 0), (21, 0), (22, 0), (23, 0), (24, 0), (25, 0), (26, 0), (27, 0)] [6, 7, 8, 9, 85] [] #[true, true, true, true, true, true, true, true, true, true, true, true, true, true, true, true, true, true, true, true, true, true, true, true, true, true, true, true] [(6, .int .i64 0), (7, .int .i64 0), (8, .int .i64 (i : Int)), (9, .int .i64 (n : Int)), (85, .bool true)] [] [] (by kernel_rfl) (by kernel_rfl) (by kernel_rfl) (by kernel_rfl) ROL_nil trivial ?_
                refine RVd_end (by kernel_rfl) ?_
                refine KE_then ?_
                refine VC_true (by kernel_rfl) ?_
                refine VC_go (hs := [0, 0]) TOK [6, 7, 8, 9] ⟨[(6, .int .i64 0), (7, .int .i64 (-1)), (8, .int .i64 (i : Int)), (9, .int .i64 (n : Int))], []⟩ [] (by kernel_rfl) (by kernel_rfl) ?_
                refine VC_ret (ls := []) TOK [] 0 false [] [.int .i64 0, .int .i64 (-1)] [] ([]) rfl (by kernel_rfl) (by kernel_rfl) (fun w9 hx9 => ?_)
                show ∃ k r, (.tuple #[.int .i64 0, .int .i64 (-1)] : Value) = .tuple #[.int .i64 k, .int .i64 r] ∧ NumR l p e k r
                exact ⟨0, -1, rfl, num_no2 hJ (by unfold Stops; simp only [Dig]; omega) he (x := (n : Int)) (by simp only [signed, if_true, Bool.false_eq_true, if_false] <;> omega) (by first | exact .inl (by omega) | exact .inr (.inl (by assumption)) | exact .inr (.inr (.inl (by omega))) | exact .inr (.inr (.inr (.inl (by omega)))) | exact .inr (.inr (.inr (.inr (by assumption)))))⟩
              · skip
                replace h97 : ((l.getD i 0).toNat : Int) = (e.toNat : Int) := by simpa using h97
                refine RVd_take (fuel' := 12) TOK [] [(12, 0), (13, 0), (14, 0), (15, 0)] [0, 1, 6, 7, 8, 9, 73] [] #[true, true, true, true, true, true, true, true, true, true, true, true, true, true, true, true, false, false, false, false, false, false, false, false, false, false, false, false] [(0, .string (B l)), (1, .int .i64 (p : Int)), (6, .int .i64 0), (7, .int .i64 0), (8, .int .i64 (i : Int)), (9, .int .i64 (n : Int)), (73, .bool (decide ((n : Int) > 4611686018427387904)))] [] [] (by kernel_rfl) (by kernel_rfl) (by kernel_rfl) (by kernel_rfl) ROL_nil trivial ?_
                refine RVd_case (decide ((n : Int) > 4611686018427387904)) (fun bb => ⟨[(0, .string (B l)), (1, .int .i64 (p : Int)), (6, .int .i64 0), (7, .int .i64 0), (8, .int .i64 (i : Int)), (9, .int .i64 (n : Int)), (73, .bool bb)], []⟩) (by kernel_rfl) (fun h98 => ?_) (fun h98 => ?_)
                · skip
                  replace h98 := of_decide_eq_true h98
                  refine RVd_take (fuel' := 0) TOK [] [(16, 0), (17, 0), (18, 0), (19, 0), (20, 0), (21, 0), (22, 0), (23, 0), (24, 0), (25, 0), (26, 0), (27, 0)] [6, 7, 8, 9, 85] [] #[true, true, true, true, true, true, true, true, true, true, true, true, true, true, true, true, true, true, true, true, true, true, true, true, true, true, true, true] [(6, .int .i64 0), (7, .int .i64 0), (8, .int .i64 (i : Int)), (9, .int .i64 (n : Int)), (85, .bool true)] [] [] (by kernel_rfl) (by kernel_rfl) (by kernel_rfl) (by kernel_rfl) ROL_nil trivial ?_
                  refine RVd_end (by kernel_rfl) ?_
                  refine KE_then ?_
                  refine VC_true (by kernel_rfl) ?_
                  refine VC_go (hs := [0, 0]) TOK [6, 7, 8, 9] ⟨[(6, .int .i64 0), (7, .int .i64 (-1)), (8, .int .i64 (i : Int)), (9, .int .i64 (n : Int))], []⟩ [] (by kernel_rfl) (by kernel_rfl) ?_
                  refine VC_ret (ls := []) TOK [] 0 false [] [.int .i64 0, .int .i64 (-1)] [] ([]) rfl (by kernel_rfl) (by kernel_rfl) (fun w9 hx9 => ?_)
                  show ∃ k r, (.tuple #[.int .i64 0, .int .i64 (-1)] : Value) = .tuple #[.int .i64 k, .int .i64 r] ∧ NumR l p e k r
                  exact ⟨0, -1, rfl, num_no2 hJ (by unfold Stops; simp only [Dig]; omega) he (x := (n : Int)) (by simp only [signed, if_true, Bool.false_eq_true, if_false] <;> omega) (by first | exact .inl (by omega) | exact .inr (.inl (by assumption)) | exact .inr (.inr (.inl (by omega))) | exact .inr (.inr (.inr (.inl (by omega)))) | exact .inr (.inr (.inr (.inr (by assumption)))))⟩
                · skip
                  replace h98 := of_decide_eq_false h98
                  refine RVd_take (fuel' := 8) TOK [] [(16, 0), (17, 0), (18, 0), (19, 0)] [0, 1, 6, 7, 8, 9, 77] [] #[true, true, true, true, true, true, true, true, true, true, true, true, true, true, true, true, true, true, true, true, false, false, false, false, false, false, false, false] [(0, .string (B l)), (1, .int .i64 (p : Int)), (6, .int .i64 0), (7, .int .i64 0), (8, .int .i64 (i : Int)), (9, .int .i64 (n : Int)), (77, .bool (decide ((n : Int) < (-4611686018427387904))))] [] [] (by kernel_rfl) (by kernel_rfl) (by kernel_rfl) (by kernel_rfl) ROL_nil trivial ?_
                  refine RVd_case (decide ((n : Int) < (-4611686018427387904))) (fun bb => ⟨[(0, .string (B l)), (1, .int .i64 (p : Int)), (6, .int .i64 0), (7, .int .i64 0), (8, .int .i64 (i : Int)), (9, .int .i64 (n : Int)), (77, .bool bb)], []⟩) (by kernel_rfl) (fun h99 => ?_) (fun h99 => ?_)
                  · skip
                    replace h99 := of_decide_eq_true h99
                    refine RVd_take (fuel' := 0) TOK [] [(20, 0), (21, 0), (22, 0), (23, 0), (24, 0), (25, 0), (26, 0), (27, 0)] [6, 7, 8, 9, 85] [] #[true, true, true, true, true, true, true, true, true, true, true, true, true, true, true, true, true, true, true, true, true, true, true, true, true, true, true, true] [(6, .int .i64 0), (7, .int .i64 0), (8, .int .i64 (i : Int)), (9, .int .i64 (n : Int)), (85, .bool true)] [] [] (by kernel_rfl) (by kernel_rfl) (by kernel_rfl) (by kernel_rfl) ROL_nil trivial ?_
                    refine RVd_end (by kernel_rfl) ?_
                    refine KE_then ?_
                    refine VC_true (by kernel_rfl) ?_
                    refine VC_go (hs := [0, 0]) TOK [6, 7, 8, 9] ⟨[(6, .int .i64 0), (7, .int .i64 (-1)), (8, .int .i64 (i : Int)), (9, .int .i64 (n : Int))], []⟩ [] (by kernel_rfl) (by kernel_rfl) ?_
                    refine VC_ret (ls := []) TOK [] 0 false [] [.int .i64 0, .int .i64 (-1)] [] ([]) rfl (by kernel_rfl) (by kernel_rfl) (fun w9 hx9 => ?_)
                    show ∃ k r, (.tuple #[.int .i64 0, .int .i64 (-1)] : Value) = .tuple #[.int .i64 k, .int .i64 r] ∧ NumR l p e k r
                    exact ⟨0, -1, rfl, num_no2 hJ (by unfold Stops; simp only [Dig]; omega) he (x := (n : Int)) (by simp only [signed, if_true, Bool.false_eq_true, if_false] <;> omega) (by first | exact .inl (by omega) | exact .inr (.inl (by assumption)) | exact .inr (.inr (.inl (by omega))) | exact .inr (.inr (.inr (.inl (by omega)))) | exact .inr (.inr (.inr (.inr (by assumption)))))⟩
                  · skip
                    replace h99 := of_decide_eq_false h99
                    refine RVd_take (fuel' := 3) TOK [] [(20, 0), (22, 0), (23, 0), (24, 0), (25, 0)] [6, 7, 8, 9, 77, 78, 83] [] #[true, true, true, true, true, true, true, true, true, true, true, true, true, true, true, true, true, true, true, true, true, false, true, true, true, true, false, false] [(6, .int .i64 0), (7, .int .i64 0), (8, .int .i64 (i : Int)), (9, .int .i64 (n : Int)), (77, .bool false), (78, .int .i64 (n : Int)), (83, .string ((B l).extract p i))] [] [.le (i : Int) l.length, .le (p : Int) i] (by kernel_rfl) (by kernel_rfl) (by kernel_rfl) (by kernel_rfl) ROL_nil (by simp only [Conds, Cond.holds, and_true]; first | omega | (have hle := hJ.le; omega)) ?_
                    refine RVd_st ⟨[(6, .int .i64 0), (7, .int .i64 0), (8, .int .i64 (i : Int)), (9, .int .i64 (n : Int)), (77, .bool false), (78, .int .i64 (n : Int)), (83, .string (B ((l.take i).drop p)))], []⟩ (by rw [B_ext l p i]) ?_
                    refine RVd_call (fuel := 2) 21 [] #[true, true, true, true, true, true, true, true, true, true, true, true, true, true, true, true, true, true, true, true, true, true, true, true, true, true, false, false] (f := 27) (vs := [.int .i64 (n : Int)]) (dst := (some 79)) (by kernel_rfl) (by kernel_rfl) (by kernel_rfl) E27 (by kernel_rfl) (fun wa hxe hp => f27 (n : Int) _ wa hp (by unfold InR; omega)) ?_
                    rintro S100 w101 v102 _ hx103 rfl
                    refine RVd_take (fuel' := 0) TOK [] [(26, 0), (27, 0)] [6, 7, 8, 9, 85] [] #[true, true, true, true, true, true, true, true, true, true, true, true, true, true, true, true, true, true, true, true, true, true, true, true, true, true, true, true] [(6, .int .i64 0), (7, .int .i64 0), (8, .int .i64 (i : Int)), (9, .int .i64 (n : Int)), (85, .bool (!((B (Lib.itoa (n : Int))).toList == (B ((l.take i).drop p)).toList)))] [] [] (by kernel_rfl) (by kernel_rfl) (by kernel_rfl) (by kernel_rfl) ROL_nil trivial ?_
                    refine RVd_end (by kernel_rfl) ?_
                    refine KE_then ?_
                    refine VC_cond (!((B (Lib.itoa (n : Int))).toList == (B ((l.take i).drop p)).toList)) (by kernel_rfl) (fun h104 => ?_) (fun h104 => ?_)
                    · skip
                      have h104 : ((B (Lib.itoa (n : Int))).toList == (B ((l.take i).drop p)).toList) = false := by simpa using h104
                      replace h104 := B_ne h104
                      refine VC_go (hs := [0, 0]) TOK [6, 7, 8, 9] ⟨[(6, .int .i64 0), (7, .int .i64 (-1)), (8, .int .i64 (i : Int)), (9, .int .i64 (n : Int))], []⟩ [] (by kernel_rfl) (by kernel_rfl) ?_
                      refine VC_ret (ls := []) TOK [] 0 false [] [.int .i64 0, .int .i64 (-1)] [] ([]) rfl (by kernel_rfl) (by kernel_rfl) (fun w9 hx9 => ?_)
                      show ∃ k r, (.tuple #[.int .i64 0, .int .i64 (-1)] : Value) = .tuple #[.int .i64 k, .int .i64 r] ∧ NumR l p e k r
                      exact ⟨0, -1, rfl, num_no2 hJ (by unfold Stops; simp only [Dig]; omega) he (x := (n : Int)) (by simp only [signed, if_true, Bool.false_eq_true, if_false] <;> omega) (by first | exact .inl (by omega) | exact .inr (.inl (by assumption)) | exact .inr (.inr (.inl (by omega))) | exact .inr (.inr (.inr (.inl (by omega)))) | exact .inr (.inr (.inr (.inr (by assumption)))))⟩
                    · skip
                      have h104 : ((B (Lib.itoa (n : Int))).toList == (B ((l.take i).drop p)).toList) = true := by simpa using h104
                      replace h104 := B_eq h104
                      refine VC_skip ?_
                      refine KE_then ?_
                      refine VC_seq ?_
                      refine VC_region 5 rfl ?_
                      refine RV_go (hs := [0, 0, 0]) (c' := 2) (k' := 3) TOK [6, 7, 86, 88] ⟨[(6, .int .i64 0), (7, .int .i64 0), (86, .int .i64 (n : Int)), (88, .int .i64 (IntKind.i64.wrap ((i : Int) + 1)))], []⟩ [] (by kernel_rfl) (by kernel_rfl) ?_
                      refine RV_st ⟨[(6, .int .i64 0), (7, .int .i64 0), (86, .int .i64 (n : Int)), (88, .int .i64 ((i : Int) + 1))], []⟩ (by rw [wrap_id (x := (i : Int) + 1) (by unfold InR; first | omega | (have hu := UInt8.toNat_lt (l.getD i 0); omega))]) ?_
                      refine RV_go (hs := [0, 0]) (c' := 0) (k' := 5) TOK [6, 7] ⟨[(6, .int .i64 (n : Int)), (7, .int .i64 ((i : Int) + 1))], []⟩ [] (by kernel_rfl) (by kernel_rfl) ?_
                      refine RV_end ?_
                      refine KE_then ?_
                      refine VC_ret (ls := []) TOK [] 0 false [] [.int .i64 (n : Int), .int .i64 ((i : Int) + 1)] [] ([]) rfl (by kernel_rfl) (by kernel_rfl) (fun w9 hx9 => ?_)
                      show ∃ k r, (.tuple #[.int .i64 (n : Int), .int .i64 ((i : Int) + 1)] : Value) = .tuple #[.int .i64 k, .int .i64 r] ∧ NumR l p e k r
                      exact ⟨_, _, rfl, num_yes2 hJ (x := (n : Int)) (by simp only [signed, if_true, Bool.false_eq_true, if_false] <;> omega) (by omega) (by assumption) (by omega) (by omega) (by assumption) (by first | rfl | omega)⟩
        · skip
          replace h94 := of_decide_eq_false h94
          refine RV_go (hs := [0, 0, 0]) (c' := 0) (k' := 20) TOK [0, 1, 2, 6, 7, 8, 9, 10, 44] ⟨[(0, .string (B l)), (1, .int .i64 (p : Int)), (2, .int .u8 (e.toNat : Int)), (6, .int .i64 0), (7, .int .i64 0), (8, .int .i64 (i : Int)), (9, .int .i64 (n : Int)), (10, .bool false), (44, .bool false)], []⟩ [] (by kernel_rfl) (by kernel_rfl) ?_
          refine RV_end ?_
          refine KE_then ?_
          refine VC_false (by kernel_rfl) ?_
          refine VC_exit ?_
          refine KE_exit_then ?_
          refine KE_exit_then ?_
          refine KE_exit_here ?_
          refine KE_then ?_
          refine VC_seq ?_
          refine VC_go (hs := [0]) TOK [0, 1, 2, 6, 7, 8, 9, 55] ⟨[(0, .string (B l)), (1, .int .i64 (p : Int)), (2, .int .u8 (e.toNat : Int)), (6, .int .i64 0), (7, .int .i64 0), (8, .int .i64 (i : Int)), (9, .int .i64 (n : Int)), (55, .bool false)], []⟩ [] (by kernel_rfl) (by kernel_rfl) ?_
          refine VC_false (by kernel_rfl) ?_
          refine VC_skip ?_
          refine KE_then ?_
          refine VC_seq ?_
          refine VC_seq ?_
          refine VC_draw MIX [] 28 rfl ?_
          refine RVd_take (fuel' := 23) TOK [] [(0, 0), (1, 0), (2, 0), (3, 0), (4, 0)] [0, 1, 2, 6, 7, 8, 9, 62] [] #[true, true, true, true, true, false, false, false, false, false, false, false, false, false, false, false, false, false, false, false, false, false, false, false, false, false, false, false] [(0, .string (B l)), (1, .int .i64 (p : Int)), (2, .int .u8 (e.toNat : Int)), (6, .int .i64 0), (7, .int .i64 0), (8, .int .i64 (i : Int)), (9, .int .i64 (n : Int)), (62, .bool (decide ((i : Int) ≥ (l.length : Int))))] [] [] (by kernel_rfl) (by kernel_rfl) (by kernel_rfl) (by kernel_rfl) ROL_nil trivial ?_
          refine RVd_case (decide ((i : Int) ≥ (l.length : Int))) (fun bb => ⟨[(0, .string (B l)), (1, .int .i64 (p : Int)), (2, .int .u8 (e.toNat : Int)), (6, .int .i64 0), (7, .int .i64 0), (8, .int .i64 (i : Int)), (9, .int .i64 (n : Int)), (62, .bool bb)], []⟩) (by kernel_rfl) (fun h105 => ?_) (fun h105 => ?_)
          · skip
            replace h105 := of_decide_eq_true h105
            refine RVd_take (fuel' := 0) TOK [] [(5, 0), (6, 0), (7, 0), (8, 0), (9, 0), (10, 0), (11, 0), (12, 0), (13, 0), (14, 0), (15, 0), (16, 0), (17, 0), (18, 0), (19, 0), (20, 0), (21, 0), (22, 0), (23, 0), (24, 0), (25, 0), (26, 0), (27, 0)] [6, 7, 8, 9, 85] [] #[true, true, true, true, true, true, true, true, true, true, true, true, true, true, true, true, true, true, true, true, true, true, true, true, true, true, true, true] [(6, .int .i64 0), (7, .int .i64 0), (8, .int .i64 (i : Int)), (9, .int .i64 (n : Int)), (85, .bool true)] [] [] (by kernel_rfl) (by kernel_rfl) (by kernel_rfl) (by kernel_rfl) ROL_nil trivial ?_
            refine RVd_end (by kernel_rfl) ?_
            refine KE_then ?_
            refine VC_true (by kernel_rfl) ?_
            refine VC_go (hs := [0, 0]) TOK [6, 7, 8, 9] ⟨[(6, .int .i64 0), (7, .int .i64 (-1)), (8, .int .i64 (i : Int)), (9, .int .i64 (n : Int))], []⟩ [] (by kernel_rfl) (by kernel_rfl) ?_
            refine VC_ret (ls := []) TOK [] 0 false [] [.int .i64 0, .int .i64 (-1)] [] ([]) rfl (by kernel_rfl) (by kernel_rfl) (fun w9 hx9 => ?_)
            show ∃ k r, (.tuple #[.int .i64 0, .int .i64 (-1)] : Value) = .tuple #[.int .i64 k, .int .i64 r] ∧ NumR l p e k r
            exact ⟨0, -1, rfl, num_no2 hJ (by unfold Stops; simp only [Dig]; omega) he (x := (n : Int)) (by simp only [signed, if_true, Bool.false_eq_true, if_false] <;> omega) (by first | exact .inl (by omega) | exact .inr (.inl (by assumption)) | exact .inr (.inr (.inl (by omega))) | exact .inr (.inr (.inr (.inl (by omega)))) | exact .inr (.inr (.inr (.inr (by assumption)))))⟩
          · skip
            replace h105 := of_decide_eq_false h105
            refine RVd_take (fuel' := 16) TOK [] [(5, 0), (6, 0), (7, 0), (8, 0), (9, 0), (10, 0), (11, 0)] [0, 1, 6, 7, 8, 9, 69] [] #[true, true, true, true, true, true, true, true, true, true, true, true, false, false, false, false, false, false, false, false, false, false, false, false, false, false, false, false] [(0, .string (B l)), (1, .int .i64 (p : Int)), (6, .int .i64 0), (7, .int .i64 0), (8, .int .i64 (i : Int)), (9, .int .i64 (n : Int)), (69, .bool (((l.getD i 0).toNat : Int) != (e.toNat : Int)))] [] [.lt (i : Int) l.length] (by kernel_rfl) (by kernel_rfl) (by kernel_rfl) (by kernel_rfl) ROL_nil (by simp only [Conds, Cond.holds, and_true]; first | omega | (have hle := hJ.le; omega)) ?_
            refine RVd_case (((l.getD i 0).toNat : Int) != (e.toNat : Int)) (fun bb => ⟨[(0, .string (B l)), (1, .int .i64 (p : Int)), (6, .int .i64 0), (7, .int .i64 0), (8, .int .i64 (i : Int)), (9, .int .i64 (n : Int)), (69, .bool bb)], []⟩) (by kernel_rfl) (fun h106 => ?_) (fun h106 => ?_)
            · skip
              replace h106 := bne_iff_ne.1 h106
              refine RVd_take (fuel' := 0) TOK [] [(12, 0), (13, 0), (14, 0), (15, 0), (16, 0), (17, 0), (18, 0), (19, 0), (20, 0), (21, 0), (22, 0), (23, 0), (24, 0), (25, 0), (26, 0), (27, 0)] [6, 7, 8, 9, 85] [] #[true, true, true, true, true, true, true, true, true, true, true, true, true, true, true, true, true, true, true, true, true, true, true, true, true, true, true, true] [(6, .int .i64 0), (7, .int .i64 0), (8, .int .i64 (i : Int)), (9, .int .i64 (n : Int)), (85, .bool true)] [] [] (by kernel_rfl) (by kernel_rfl) (by kernel_rfl) (by kernel_rfl) ROL_nil trivial ?_
              refine RVd_end (by kernel_rfl) ?_
              refine KE_then ?_
              refine VC_true (by kernel_rfl) ?_
              refine VC_go (hs := [0, 0]) TOK [6, 7, 8, 9] ⟨[(6, .int .i64 0), (7, .int .i64 (-1)), (8, .int .i64 (i : Int)), (9, .int .i64 (n : Int))], []⟩ [] (by kernel_rfl) (by kernel_rfl) ?_
              refine VC_ret (ls := []) TOK [] 0 false [] [.int .i64 0, .int .i64 (-1)] [] ([]) rfl (by kernel_rfl) (by kernel_rfl) (fun w9 hx9 => ?_)
              show ∃ k r, (.tuple #[.int .i64 0, .int .i64 (-1)] : Value) = .tuple #[.int .i64 k, .int .i64 r] ∧ NumR l p e k r
              exact ⟨0, -1, rfl, num_no2 hJ (by unfold Stops; simp only [Dig]; omega) he (x := (n : Int)) (by simp only [signed, if_true, Bool.false_eq_true, if_false] <;> omega) (by first | exact .inl (by omega) | exact .inr (.inl (by assumption)) | exact .inr (.inr (.inl (by omega))) | exact .inr (.inr (.inr (.inl (by omega)))) | exact .inr (.inr (.inr (.inr (by assumption)))))⟩
            · skip
              replace h106 : ((l.getD i 0).toNat : Int) = (e.toNat : Int) := by simpa using h106
              refine RVd_take (fuel' := 12) TOK [] [(12, 0), (13, 0), (14, 0), (15, 0)] [0, 1, 6, 7, 8, 9, 73] [] #[true, true, true, true, true, true, true, true, true, true, true, true, true, true, true, true, false, false, false, false, false, false, false, false, false, false, false, false] [(0, .string (B l)), (1, .int .i64 (p : Int)), (6, .int .i64 0), (7, .int .i64 0), (8, .int .i64 (i : Int)), (9, .int .i64 (n : Int)), (73, .bool (decide ((n : Int) > 4611686018427387904)))] [] [] (by kernel_rfl) (by kernel_rfl) (by kernel_rfl) (by kernel_rfl) ROL_nil trivial ?_
              refine RVd_case (decide ((n : Int) > 4611686018427387904)) (fun bb => ⟨[(0, .string (B l)), (1, .int .i64 (p : Int)), (6, .int .i64 0), (7, .int .i64 0), (8, .int .i64 (i : Int)), (9, .int .i64 (n : Int)), (73, .bool bb)], []⟩) (by kernel_rfl) (fun h107 => ?_) (fun h107 => ?_)
              · skip
                replace h107 := of_decide_eq_true h107
                refine RVd_take (fuel' := 0) TOK [] [(16, 0), (17, 0), (18, 0), (19, 0), (20, 0), (21, 0), (22, 0), (23, 0), (24, 0), (25, 0), (26, 0), (27, 0)] [6, 7, 8, 9, 85] [] #[true, true, true, true, true, true, true, true, true, true, true, true, true, true, true, true, true, true, true, true, true, true, true, true, true, true, true, true] [(6, .int .i64 0), (7, .int .i64 0), (8, .int .i64 (i : Int)), (9, .int .i64 (n : Int)), (85, .bool true)] [] [] (by kernel_rfl) (by kernel_rfl) (by kernel_rfl) (by kernel_rfl) ROL_nil trivial ?_
                refine RVd_end (by kernel_rfl) ?_
                refine KE_then ?_
                refine VC_true (by kernel_rfl) ?_
                refine VC_go (hs := [0, 0]) TOK [6, 7, 8, 9] ⟨[(6, .int .i64 0), (7, .int .i64 (-1)), (8, .int .i64 (i : Int)), (9, .int .i64 (n : Int))], []⟩ [] (by kernel_rfl) (by kernel_rfl) ?_
                refine VC_ret (ls := []) TOK [] 0 false [] [.int .i64 0, .int .i64 (-1)] [] ([]) rfl (by kernel_rfl) (by kernel_rfl) (fun w9 hx9 => ?_)
                show ∃ k r, (.tuple #[.int .i64 0, .int .i64 (-1)] : Value) = .tuple #[.int .i64 k, .int .i64 r] ∧ NumR l p e k r
                exact ⟨0, -1, rfl, num_no2 hJ (by unfold Stops; simp only [Dig]; omega) he (x := (n : Int)) (by simp only [signed, if_true, Bool.false_eq_true, if_false] <;> omega) (by first | exact .inl (by omega) | exact .inr (.inl (by assumption)) | exact .inr (.inr (.inl (by omega))) | exact .inr (.inr (.inr (.inl (by omega)))) | exact .inr (.inr (.inr (.inr (by assumption)))))⟩
              · skip
                replace h107 := of_decide_eq_false h107
                refine RVd_take (fuel' := 8) TOK [] [(16, 0), (17, 0), (18, 0), (19, 0)] [0, 1, 6, 7, 8, 9, 77] [] #[true, true, true, true, true, true, true, true, true, true, true, true, true, true, true, true, true, true, true, true, false, false, false, false, false, false, false, false] [(0, .string (B l)), (1, .int .i64 (p : Int)), (6, .int .i64 0), (7, .int .i64 0), (8, .int .i64 (i : Int)), (9, .int .i64 (n : Int)), (77, .bool (decide ((n : Int) < (-4611686018427387904))))] [] [] (by kernel_rfl) (by kernel_rfl) (by kernel_rfl) (by kernel_rfl) ROL_nil trivial ?_
                refine RVd_case (decide ((n : Int) < (-4611686018427387904))) (fun bb => ⟨[(0, .string (B l)), (1, .int .i64 (p : Int)), (6, .int .i64 0), (7, .int .i64 0), (8, .int .i64 (i : Int)), (9, .int .i64 (n : Int)), (77, .bool bb)], []⟩) (by kernel_rfl) (fun h108 => ?_) (fun h108 => ?_)
                · skip
                  replace h108 := of_decide_eq_true h108
                  refine RVd_take (fuel' := 0) TOK [] [(20, 0), (21, 0), (22, 0), (23, 0), (24, 0), (25, 0), (26, 0), (27, 0)] [6, 7, 8, 9, 85] [] #[true, true, true, true, true, true, true, true, true, true, true, true, true, true, true, true, true, true, true, true, true, true, true, true, true, true, true, true] [(6, .int .i64 0), (7, .int .i64 0), (8, .int .i64 (i : Int)), (9, .int .i64 (n : Int)), (85, .bool true)] [] [] (by kernel_rfl) (by kernel_rfl) (by kernel_rfl) (by kernel_rfl) ROL_nil trivial ?_
                  refine RVd_end (by kernel_rfl) ?_
                  refine KE_then ?_
                  refine VC_true (by kernel_rfl) ?_
                  refine VC_go (hs := [0, 0]) TOK [6, 7, 8, 9] ⟨[(6, .int .i64 0), (7, .int .i64 (-1)), (8, .int .i64 (i : Int)), (9, .int .i64 (n : Int))], []⟩ [] (by kernel_rfl) (by kernel_rfl) ?_
                  refine VC_ret (ls := []) TOK [] 0 false [] [.int .i64 0, .int .i64 (-1)] [] ([]) rfl (by kernel_rfl) (by kernel_rfl) (fun w9 hx9 => ?_)
                  show ∃ k r, (.tuple #[.int .i64 0, .int .i64 (-1)] : Value) = .tuple #[.int .i64 k, .int .i64 r] ∧ NumR l p e k r
                  exact ⟨0, -1, rfl, num_no2 hJ (by unfold Stops; simp only [Dig]; omega) he (x := (n : Int)) (by simp only [signed, if_true, Bool.false_eq_true, if_false] <;> omega) (by first | exact .inl (by omega) | exact .inr (.inl (by assumption)) | exact .inr (.inr (.inl (by omega))) | exact .inr (.inr (.inr (.inl (by omega)))) | exact .inr (.inr (.inr (.inr (by assumption)))))⟩
                · skip
                  replace h108 := of_decide_eq_false h108
                  refine RVd_take (fuel' := 3) TOK [] [(20, 0), (22, 0), (23, 0), (24, 0), (25, 0)] [6, 7, 8, 9, 77, 78, 83] [] #[true, true, true, true, true, true, true, true, true, true, true, true, true, true, true, true, true, true, true, true, true, false, true, true, true, true, false, false] [(6, .int .i64 0), (7, .int .i64 0), (8, .int .i64 (i : Int)), (9, .int .i64 (n : Int)), (77, .bool false), (78, .int .i64 (n : Int)), (83, .string ((B l).extract p i))] [] [.le (i : Int) l.length, .le (p : Int) i] (by kernel_rfl) (by kernel_rfl) (by kernel_rfl) (by kernel_rfl) ROL_nil (by simp only [Conds, Cond.holds, and_true]; first | omega | (have hle := hJ.le; omega)) ?_
                  refine RVd_st ⟨[(6, .int .i64 0), (7, .int .i64 0), (8, .int .i64 (i : Int)), (9, .int .i64 (n : Int)), (77, .bool false), (78, .int .i64 (n : Int)), (83, .string (B ((l.take i).drop p)))], []⟩ (by rw [B_ext l p i]) ?_
                  refine RVd_call (fuel := 2) 21 [] #[true, true, true, true, true, true, true, true, true, true, true, true, true, true, true, true, true, true, true, true, true, true, true, true, true, true, false, false] (f := 27) (vs := [.int .i64 (n : Int)]) (dst := (some 79)) (by kernel_rfl) (by kernel_rfl) (by kernel_rfl) E27 (by kernel_rfl) (fun wa hxe hp => f27 (n : Int) _ wa hp (by unfold InR; omega)) ?_
                  rintro S109 w110 v111 _ hx112 rfl
                  refine RVd_take (fuel' := 0) TOK [] [(26, 0), (27, 0)] [6, 7, 8, 9, 85] [] #[true, true, true, true, true, true, true, true, true, true, true, true, true, true, true, true, true, true, true, true, true, true, true, true, true, true, true, true] [(6, .int .i64 0), (7, .int .i64 0), (8, .int .i64 (i : Int)), (9, .int .i64 (n : Int)), (85, .bool (!((B (Lib.itoa (n : Int))).toList == (B ((l.take i).drop p)).toList)))] [] [] (by kernel_rfl) (by kernel_rfl) (by kernel_rfl) (by kernel_rfl) ROL_nil trivial ?_
                  refine RVd_end (by kernel_rfl) ?_
                  refine KE_then ?_
                  refine VC_cond (!((B (Lib.itoa (n : Int))).toList == (B ((l.take i).drop p)).toList)) (by kernel_rfl) (fun h113 => ?_) (fun h113 => ?_)
                  · skip
                    have h113 : ((B (Lib.itoa (n : Int))).toList == (B ((l.take i).drop p)).toList) = false := by simpa using h113
                    replace h113 := B_ne h113
                    refine VC_go (hs := [0, 0]) TOK [6, 7, 8, 9] ⟨[(6, .int .i64 0), (7, .int .i64 (-1)), (8, .int .i64 (i : Int)), (9, .int .i64 (n : Int))], []⟩ [] (by kernel_rfl) (by kernel_rfl) ?_
                    refine VC_ret (ls := []) TOK [] 0 false [] [.int .i64 0, .int .i64 (-1)] [] ([]) rfl (by kernel_rfl) (by kernel_rfl) (fun w9 hx9 => ?_)
                    show ∃ k r, (.tuple #[.int .i64 0, .int .i64 (-1)] : Value) = .tuple #[.int .i64 k, .int .i64 r] ∧ NumR l p e k r
                    exact ⟨0, -1, rfl, num_no2 hJ (by unfold Stops; simp only [Dig]; omega) he (x := (n : Int)) (by simp only [signed, if_true, Bool.false_eq_true, if_false] <;> omega) (by first | exact .inl (by omega) | exact .inr (.inl (by assumption)) | exact .inr (.inr (.inl (by omega))) | exact .inr (.inr (.inr (.inl (by omega)))) | exact .inr (.inr (.inr (.inr (by assumption)))))⟩
                  · skip
                    have h113 : ((B (Lib.itoa (n : Int))).toList == (B ((l.take i).drop p)).toList) = true := by simpa using h113
                    replace h113 := B_eq h113
                    refine VC_skip ?_
                    refine KE_then ?_
                    refine VC_seq ?_
                    refine VC_region 5 rfl ?_
                    refine RV_go (hs := [0, 0, 0]) (c' := 2) (k' := 3) TOK [6, 7, 86, 88] ⟨[(6, .int .i64 0), (7, .int .i64 0), (86, .int .i64 (n : Int)), (88, .int .i64 (IntKind.i64.wrap ((i : Int) + 1)))], []⟩ [] (by kernel_rfl) (by kernel_rfl) ?_
                    refine RV_st ⟨[(6, .int .i64 0), (7, .int .i64 0), (86, .int .i64 (n : Int)), (88, .int .i64 ((i : Int) + 1))], []⟩ (by rw [wrap_id (x := (i : Int) + 1) (by unfold InR; first | omega | (have hu := UInt8.toNat_lt (l.getD i 0); omega))]) ?_
                    refine RV_go (hs := [0, 0]) (c' := 0) (k' := 5) TOK [6, 7] ⟨[(6, .int .i64 (n : Int)), (7, .int .i64 ((i : Int) + 1))], []⟩ [] (by kernel_rfl) (by kernel_rfl) ?_
                    refine RV_end ?_
                    refine KE_then ?_
                    refine VC_ret (ls := []) TOK [] 0 false [] [.int .i64 (n : Int), .int .i64 ((i : Int) + 1)] [] ([]) rfl (by kernel_rfl) (by kernel_rfl) (fun w9 hx9 => ?_)
                    show ∃ k r, (.tuple #[.int .i64 (n : Int), .int .i64 ((i : Int) + 1)] : Value) = .tuple #[.int .i64 k, .int .i64 r] ∧ NumR l p e k r
                    exact ⟨_, _, rfl, num_yes2 hJ (x := (n : Int)) (by simp only [signed, if_true, Bool.false_eq_true, if_false] <;> omega) (by omega) (by assumption) (by omega) (by omega) (by assumption) (by first | rfl | omega)⟩
      · skip
        replace h93 := of_decide_eq_false h93
        refine RV_go (hs := [0, 0, 0, 0, 0, 0, 0, 0, 0]) (c' := 0) (k' := 20) TOK [0, 1, 2, 6, 7, 8, 9, 10, 44] ⟨[(0, .string (B l)), (1, .int .i64 (p : Int)), (2, .int .u8 (e.toNat : Int)), (6, .int .i64 0), (7, .int .i64 0), (8, .int .i64 (i : Int)), (9, .int .i64 (n : Int)), (10, .bool false), (44, .bool false)], []⟩ [] (by kernel_rfl) (by kernel_rfl) ?_
        refine RV_end ?_
        refine KE_then ?_
        refine VC_false (by kernel_rfl) ?_
        refine VC_exit ?_
        refine KE_exit_then ?_
        refine KE_exit_then ?_
        refine KE_exit_here ?_
        refine KE_then ?_
        refine VC_seq ?_
        refine VC_go (hs := [0]) TOK [0, 1, 2, 6, 7, 8, 9, 55] ⟨[(0, .string (B l)), (1, .int .i64 (p : Int)), (2, .int .u8 (e.toNat : Int)), (6, .int .i64 0), (7, .int .i64 0), (8, .int .i64 (i : Int)), (9, .int .i64 (n : Int)), (55, .bool false)], []⟩ [] (by kernel_rfl) (by kernel_rfl) ?_
        refine VC_false (by kernel_rfl) ?_
        refine VC_skip ?_
        refine KE_then ?_
        refine VC_seq ?_
        refine VC_seq ?_
        refine VC_draw MIX [] 28 rfl ?_
        refine RVd_take (fuel' := 23) TOK [] [(0, 0), (1, 0), (2, 0), (3, 0), (4, 0)] [0, 1, 2, 6, 7, 8, 9, 62] [] #[true, true, true, true, true, false, false, false, false, false, false, false, false, false, false, false, false, false, false, false, false, false, false, false, false, false, false, false] [(0, .string (B l)), (1, .int .i64 (p : Int)), (2, .int .u8 (e.toNat : Int)), (6, .int .i64 0), (7, .int .i64 0), (8, .int .i64 (i : Int)), (9, .int .i64 (n : Int)), (62, .bool (decide ((i : Int) ≥ (l.length : Int))))] [] [] (by kernel_rfl) (by kernel_rfl) (by kernel_rfl) (by kernel_rfl) ROL_nil trivial ?_
        refine RVd_case (decide ((i : Int) ≥ (l.length : Int))) (fun bb => ⟨[(0, .string (B l)), (1, .int .i64 (p : Int)), (2, .int .u8 (e.toNat : Int)), (6, .int .i64 0), (7, .int .i64 0), (8, .int .i64 (i : Int)), (9, .int .i64 (n : Int)), (62, .bool bb)], []⟩) (by kernel_rfl) (fun h114 => ?_) (fun h114 => ?_)
        · skip
          replace h114 := of_decide_eq_true h114
          refine RVd_take (fuel' := 0) TOK [] [(5, 0), (6, 0), (7, 0), (8, 0), (9, 0), (10, 0), (11, 0), (12, 0), (13, 0), (14, 0), (15, 0), (16, 0), (17, 0), (18, 0), (19, 0), (20, 0), (21, 0), (22, 0), (23, 0), (24, 0), (25, 0), (26, 0), (27, 0)] [6, 7, 8, 9, 85] [] #[true, true, true, true, true, true, true, true, true, true, true, true, true, true, true, true, true, true, true, true, true, true, true, true, true, true, true, true] [(6, .int .i64 0), (7, .int .i64 0), (8, .int .i64 (i : Int)), (9, .int .i64 (n : Int)), (85, .bool true)] [] [] (by kernel_rfl) (by kernel_rfl) (by kernel_rfl) (by kernel_rfl) ROL_nil trivial ?_
          refine RVd_end (by kernel_rfl) ?_
          refine KE_then ?_
          refine VC_true (by kernel_rfl) ?_
          refine VC_go (hs := [0, 0]) TOK [6, 7, 8, 9] ⟨[(6, .int .i64 0), (7, .int .i64 (-1)), (8, .int .i64 (i : Int)), (9, .int .i64 (n : Int))], []⟩ [] (by kernel_rfl) (by kernel_rfl) ?_
          refine VC_ret (ls := []) TOK [] 0 false [] [.int .i64 0, .int .i64 (-1)] [] ([]) rfl (by kernel_rfl) (by kernel_rfl) (fun w9 hx9 => ?_)
          show ∃ k r, (.tuple #[.int .i64 0, .int .i64 (-1)] : Value) = .tuple #[.int .i64 k, .int .i64 r] ∧ NumR l p e k r
          exact ⟨0, -1, rfl, num_no2 hJ (by unfold Stops; simp only [Dig]; omega) he (x := (n : Int)) (by simp only [signed, if_true, Bool.false_eq_true, if_false] <;> omega) (by first | exact .inl (by omega) | exact .inr (.inl (by assumption)) | exact .inr (.inr (.inl (by omega))) | exact .inr (.inr (.inr (.inl (by omega)))) | exact .inr (.inr (.inr (.inr (by assumption)))))⟩
        · skip
          replace h114 := of_decide_eq_false h114
          refine RVd_take (fuel' := 16) TOK [] [(5, 0), (6, 0), (7, 0), (8, 0), (9, 0), (10, 0), (11, 0)] [0, 1, 6, 7, 8, 9, 69] [] #[true, true, true, true, true, true, true, true, true, true, true, true, false, false, false, false, false, false, false, false, false, false, false, false, false, false, false, false] [(0, .string (B l)), (1, .int .i64 (p : Int)), (6, .int .i64 0), (7, .int .i64 0), (8, .int .i64 (i : Int)), (9, .int .i64 (n : Int)), (69, .bool (((l.getD i 0).toNat : Int) != (e.toNat : Int)))] [] [.lt (i : Int) l.length] (by kernel_rfl) (by kernel_rfl) (by kernel_rfl) (by kernel_rfl) ROL_nil (by simp only [Conds, Cond.holds, and_true]; first | omega | (have hle := hJ.le; omega)) ?_
          refine RVd_case (((l.getD i 0).toNat : Int) != (e.toNat : Int)) (fun bb => ⟨[(0, .string (B l)), (1, .int .i64 (p : Int)), (6, .int .i64 0), (7, .int .i64 0), (8, .int .i64 (i : Int)), (9, .int .i64 (n : Int)), (69, .bool bb)], []⟩) (by kernel_rfl) (fun h115 => ?_) (fun h115 => ?_)
          · skip
            replace h115 := bne_iff_ne.1 h115
            refine RVd_take (fuel' := 0) TOK [] [(12, 0), (13, 0), (14, 0), (15, 0), (16, 0), (17, 0), (18, 0), (19, 0), (20, 0), (21, 0), (22, 0), (23, 0), (24, 0), (25, 0), (26, 0), (27, 0)] [6, 7, 8, 9, 85] [] #[true, true, true, true, true, true, true, true, true, true, true, true, true, true, true, true, true, true, true, true, true, true, true, true, true, true, true, true] [(6, .int .i64 0), (7, .int .i64 0), (8, .int .i64 (i : Int)), (9, .int .i64 (n : Int)), (85, .bool true)] [] [] (by kernel_rfl) (by kernel_rfl) (by kernel_rfl) (by kernel_rfl) ROL_nil trivial ?_
            refine RVd_end (by kernel_rfl) ?_
            refine KE_then ?_
            refine VC_true (by kernel_rfl) ?_
            refine VC_go (hs := [0, 0]) TOK [6, 7, 8, 9] ⟨[(6, .int .i64 0), (7, .int .i64 (-1)), (8, .int .i64 (i : Int)), (9, .int .i64 (n : Int))], []⟩ [] (by kernel_rfl) (by kernel_rfl) ?_
            refine VC_ret (ls := []) TOK [] 0 false [] [.int .i64 0, .int .i64 (-1)] [] ([]) rfl (by kernel_rfl) (by kernel_rfl) (fun w9 hx9 => ?_)
            show ∃ k r, (.tuple #[.int .i64 0, .int .i64 (-1)] : Value) = .tuple #[.int .i64 k, .int .i64 r] ∧ NumR l p e k r
            exact ⟨0, -1, rfl, num_no2 hJ (by unfold Stops; simp only [Dig]; omega) he (x := (n : Int)) (by simp only [signed, if_true, Bool.false_eq_true, if_false] <;> omega) (by first | exact .inl (by omega) | exact .inr (.inl (by assumption)) | exact .inr (.inr (.inl (by omega))) | exact .inr (.inr (.inr (.inl (by omega)))) | exact .inr (.inr (.inr (.inr (by assumption)))))⟩
          · skip
            replace h115 : ((l.getD i 0).toNat : Int) = (e.toNat : Int) := by simpa using h115
            refine RVd_take (fuel' := 12) TOK [] [(12, 0), (13, 0), (14, 0), (15, 0)] [0, 1, 6, 7, 8, 9, 73] [] #[true, true, true, true, true, true, true, true, true, true, true, true, true, true, true, true, false, false, false, false, false, false, false, false, false, false, false, false] [(0, .string (B l)), (1, .int .i64 (p : Int)), (6, .int .i64 0), (7, .int .i64 0), (8, .int .i64 (i : Int)), (9, .int .i64 (n : Int)), (73, .bool (decide ((n : Int) > 4611686018427387904)))] [] [] (by kernel_rfl) (by kernel_rfl) (by kernel_rfl) (by kernel_rfl) ROL_nil trivial ?_
            refine RVd_case (decide ((n : Int) > 4611686018427387904)) (fun bb => ⟨[(0, .string (B l)), (1, .int .i64 (p : Int)), (6, .int .i64 0), (7, .int .i64 0), (8, .int .i64 (i : Int)), (9, .int .i64 (n : Int)), (73, .bool bb)], []⟩) (by kernel_rfl) (fun h116 => ?_) (fun h116 => ?_)
            · skip
              replace h116 := of_decide_eq_true h116
              refine RVd_take (fuel' := 0) TOK [] [(16, 0), (17, 0), (18, 0), (19, 0), (20, 0), (21, 0), (22, 0), (23, 0), (24, 0), (25, 0), (26, 0), (27, 0)] [6, 7, 8, 9, 85] [] #[true, true, true, true, true, true, true, true, true, true, true, true, true, true, true, true, true, true, true, true, true, true, true, true, true, true, true, true] [(6, .int .i64 0), (7, .int .i64 0), (8, .int .i64 (i : Int)), (9, .int .i64 (n : Int)), (85, .bool true)] [] [] (by kernel_rfl) (by kernel_rfl) (by kernel_rfl) (by kernel_rfl) ROL_nil trivial ?_
              refine RVd_end (by kernel_rfl) ?_
              refine KE_then ?_
              refine VC_true (by kernel_rfl) ?_
              refine VC_go (hs := [0, 0]) TOK [6, 7, 8, 9] ⟨[(6, .int .i64 0), (7, .int .i64 (-1)), (8, .int .i64 (i : Int)), (9, .int .i64 (n : Int))], []⟩ [] (by kernel_rfl) (by kernel_rfl) ?_
              refine VC_ret (ls := []) TOK [] 0 false [] [.int .i64 0, .int .i64 (-1)] [] ([]) rfl (by kernel_rfl) (by kernel_rfl) (fun w9 hx9 => ?_)
              show ∃ k r, (.tuple #[.int .i64 0, .int .i64 (-1)] : Value) = .tuple #[.int .i64 k, .int .i64 r] ∧ NumR l p e k r
              exact ⟨0, -1, rfl, num_no2 hJ (by unfold Stops; simp only [Dig]; omega) he (x := (n : Int)) (by simp only [signed, if_true, Bool.false_eq_true, if_false] <;> omega) (by first | exact .inl (by omega) | exact .inr (.inl (by assumption)) | exact .inr (.inr (.inl (by omega))) | exact .inr (.inr (.inr (.inl (by omega)))) | exact .inr (.inr (.inr (.inr (by assumption)))))⟩
            · skip
              replace h116 := of_decide_eq_false h116
              refine RVd_take (fuel' := 8) TOK [] [(16, 0), (17, 0), (18, 0), (19, 0)] [0, 1, 6, 7, 8, 9, 77] [] #[true, true, true, true, true, true, true, true, true, true, true, true, true, true, true, true, true, true, true, true, false, false, false, false, false, false, false, false] [(0, .string (B l)), (1, .int .i64 (p : Int)), (6, .int .i64 0), (7, .int .i64 0), (8, .int .i64 (i : Int)), (9, .int .i64 (n : Int)), (77, .bool (decide ((n : Int) < (-4611686018427387904))))] [] [] (by kernel_rfl) (by kernel_rfl) (by kernel_rfl) (by kernel_rfl) ROL_nil trivial ?_
              refine RVd_case (decide ((n : Int) < (-4611686018427387904))) (fun bb => ⟨[(0, .string (B l)), (1, .int .i64 (p : Int)), (6, .int .i64 0), (7, .int .i64 0), (8, .int .i64 (i : Int)), (9, .int .i64 (n : Int)), (77, .bool bb)], []⟩) (by kernel_rfl) (fun h117 => ?_) (fun h117 => ?_)
              · skip
                replace h117 := of_decide_eq_true h117
                refine RVd_take (fuel' := 0) TOK [] [(20, 0), (21, 0), (22, 0), (23, 0), (24, 0), (25, 0), (26, 0), (27, 0)] [6, 7, 8, 9, 85] [] #[true, true, true, true, true, true, true, true, true, true, true, true, true, true, true, true, true, true, true, true, true, true, true, true, true, true, true, true] [(6, .int .i64 0), (7, .int .i64 0), (8, .int .i64 (i : Int)), (9, .int .i64 (n : Int)), (85, .bool true)] [] [] (by kernel_rfl) (by kernel_rfl) (by kernel_rfl) (by kernel_rfl) ROL_nil trivial ?_
                refine RVd_end (by kernel_rfl) ?_
                refine KE_then ?_
                refine VC_true (by kernel_rfl) ?_
                refine VC_go (hs := [0, 0]) TOK [6, 7, 8, 9] ⟨[(6, .int .i64 0), (7, .int .i64 (-1)), (8, .int .i64 (i : Int)), (9, .int .i64 (n : Int))], []⟩ [] (by kernel_rfl) (by kernel_rfl) ?_
                refine VC_ret (ls := []) TOK [] 0 false [] [.int .i64 0, .int .i64 (-1)] [] ([]) rfl (by kernel_rfl) (by kernel_rfl) (fun w9 hx9 => ?_)
                show ∃ k r, (.tuple #[.int .i64 0, .int .i64 (-1)] : Value) = .tuple #[.int .i64 k, .int .i64 r] ∧ NumR l p e k r
                exact ⟨0, -1, rfl, num_no2 hJ (by unfold Stops; simp only [Dig]; omega) he (x := (n : Int)) (by simp only [signed, if_true, Bool.false_eq_true, if_false] <;> omega) (by first | exact .inl (by omega) | exact .inr (.inl (by assumption)) | exact .inr (.inr (.inl (by omega))) | exact .inr (.inr (.inr (.inl (by omega)))) | exact .inr (.inr (.inr (.inr (by assumption)))))⟩
              · skip
                replace h117 := of_decide_eq_false h117
                refine RVd_take (fuel' := 3) TOK [] [(20, 0), (22, 0), (23, 0), (24, 0), (25, 0)] [6, 7, 8, 9, 77, 78, 83] [] #[true, true, true, true, true, true, true, true, true, true, true, true, true, true, true, true, true, true, true, true, true, false, true, true, true, true, false, false] [(6, .int .i64 0), (7, .int .i64 0), (8, .int .i64 (i : Int)), (9, .int .i64 (n : Int)), (77, .bool false), (78, .int .i64 (n : Int)), (83, .string ((B l).extract p i))] [] [.le (i : Int) l.length, .le (p : Int) i] (by kernel_rfl) (by kernel_rfl) (by kernel_rfl) (by kernel_rfl) ROL_nil (by simp only [Conds, Cond.holds, and_true]; first | omega | (have hle := hJ.le; omega)) ?_
                refine RVd_st ⟨[(6, .int .i64 0), (7, .int .i64 0), (8, .int .i64 (i : Int)), (9, .int .i64 (n : Int)), (77, .bool false), (78, .int .i64 (n : Int)), (83, .string (B ((l.take i).drop p)))], []⟩ (by rw [B_ext l p i]) ?_
                refine RVd_call (fuel := 2) 21 [] #[true, true, true, true, true, true, true, true, true, true, true, true, true, true, true, true, true, true, true, true, true, true, true, true, true, true, false, false] (f := 27) (vs := [.int .i64 (n : Int)]) (dst := (some 79)) (by kernel_rfl) (by kernel_rfl) (by kernel_rfl) E27 (by kernel_rfl) (fun wa hxe hp => f27 (n : Int) _ wa hp (by unfold InR; omega)) ?_
                rintro S118 w119 v120 _ hx121 rfl
                refine RVd_take (fuel' := 0) TOK [] [(26, 0), (27, 0)] [6, 7, 8, 9, 85] [] #[true, true, true, true, true, true, true, true, true, true, true, true, true, true, true, true, true, true, true, true, true, true, true, true, true, true, true, true] [(6, .int .i64 0), (7, .int .i64 0), (8, .int .i64 (i : Int)), (9, .int .i64 (n : Int)), (85, .bool (!((B (Lib.itoa (n : Int))).toList == (B ((l.take i).drop p)).toList)))] [] [] (by kernel_rfl) (by kernel_rfl) (by kernel_rfl) (by kernel_rfl) ROL_nil trivial ?_
                refine RVd_end (by kernel_rfl) ?_
                refine KE_then ?_
                refine VC_cond (!((B (Lib.itoa (n : Int))).toList == (B ((l.take i).drop p)).toList)) (by kernel_rfl) (fun h122 => ?_) (fun h122 => ?_)
                · skip
                  have h122 : ((B (Lib.itoa (n : Int))).toList == (B ((l.take i).drop p)).toList) = false := by simpa using h122
                  replace h122 := B_ne h122
                  refine VC_go (hs := [0, 0]) TOK [6, 7, 8, 9] ⟨[(6, .int .i64 0), (7, .int .i64 (-1)), (8, .int .i64 (i : Int)), (9, .int .i64 (n : Int))], []⟩ [] (by kernel_rfl) (by kernel_rfl) ?_
                  refine VC_ret (ls := []) TOK [] 0 false [] [.int .i64 0, .int .i64 (-1)] [] ([]) rfl (by kernel_rfl) (by kernel_rfl) (fun w9 hx9 => ?_)
                  show ∃ k r, (.tuple #[.int .i64 0, .int .i64 (-1)] : Value) = .tuple #[.int .i64 k, .int .i64 r] ∧ NumR l p e k r
                  exact ⟨0, -1, rfl, num_no2 hJ (by unfold Stops; simp only [Dig]; omega) he (x := (n : Int)) (by simp only [signed, if_true, Bool.false_eq_true, if_false] <;> omega) (by first | exact .inl (by omega) | exact .inr (.inl (by assumption)) | exact .inr (.inr (.inl (by omega))) | exact .inr (.inr (.inr (.inl (by omega)))) | exact .inr (.inr (.inr (.inr (by assumption)))))⟩
                · skip
                  have h122 : ((B (Lib.itoa (n : Int))).toList == (B ((l.take i).drop p)).toList) = true := by simpa using h122
                  replace h122 := B_eq h122
                  refine VC_skip ?_
                  refine KE_then ?_
                  refine VC_seq ?_
                  refine VC_region 5 rfl ?_
                  refine RV_go (hs := [0, 0, 0]) (c' := 2) (k' := 3) TOK [6, 7, 86, 88] ⟨[(6, .int .i64 0), (7, .int .i64 0), (86, .int .i64 (n : Int)), (88, .int .i64 (IntKind.i64.wrap ((i : Int) + 1)))], []⟩ [] (by kernel_rfl) (by kernel_rfl) ?_
                  refine RV_st ⟨[(6, .int .i64 0), (7, .int .i64 0), (86, .int .i64 (n : Int)), (88, .int .i64 ((i : Int) + 1))], []⟩ (by rw [wrap_id (x := (i : Int) + 1) (by unfold InR; first | omega | (have hu := UInt8.toNat_lt (l.getD i 0); omega))]) ?_
                  refine RV_go (hs := [0, 0]) (c' := 0) (k' := 5) TOK [6, 7] ⟨[(6, .int .i64 (n : Int)), (7, .int .i64 ((i : Int) + 1))], []⟩ [] (by kernel_rfl) (by kernel_rfl) ?_
                  refine RV_end ?_
                  refine KE_then ?_
                  refine VC_ret (ls := []) TOK [] 0 false [] [.int .i64 (n : Int), .int .i64 ((i : Int) + 1)] [] ([]) rfl (by kernel_rfl) (by kernel_rfl) (fun w9 hx9 => ?_)
                  show ∃ k r, (.tuple #[.int .i64 (n : Int), .int .i64 ((i : Int) + 1)] : Value) = .tuple #[.int .i64 k, .int .i64 r] ∧ NumR l p e k r
                  exact ⟨_, _, rfl, num_yes2 hJ (x := (n : Int)) (by simp only [signed, if_true, Bool.false_eq_true, if_false] <;> omega) (by omega) (by assumption) (by omega) (by omega) (by assumption) (by first | rfl | omega)⟩
    · skip
      replace h92 := of_decide_eq_false h92
      refine RV_go (hs := [0, 0, 0, 0, 0, 0, 0, 0, 0, 0, 0, 0, 0, 0, 0]) (c' := 0) (k' := 20) TOK [0, 1, 2, 6, 7, 8, 9, 10, 44] ⟨[(0, .string (B l)), (1, .int .i64 (p : Int)), (2, .int .u8 (e.toNat : Int)), (6, .int .i64 0), (7, .int .i64 0), (8, .int .i64 (i : Int)), (9, .int .i64 (n : Int)), (10, .bool false), (44, .bool false)], []⟩ [] (by kernel_rfl) (by kernel_rfl) ?_
      refine RV_end ?_
      refine KE_then ?_
      refine VC_false (by kernel_rfl) ?_
      refine VC_exit ?_
      refine KE_exit_then ?_
      refine KE_exit_then ?_
      refine KE_exit_here ?_
      refine KE_then ?_
      refine VC_seq ?_
      refine VC_go (hs := [0]) TOK [0, 1, 2, 6, 7, 8, 9, 55] ⟨[(0, .string (B l)), (1, .int .i64 (p : Int)), (2, .int .u8 (e.toNat : Int)), (6, .int .i64 0), (7, .int .i64 0), (8, .int .i64 (i : Int)), (9, .int .i64 (n : Int)), (55, .bool false)], []⟩ [] (by kernel_rfl) (by kernel_rfl) ?_
      refine VC_false (by kernel_rfl) ?_
      refine VC_skip ?_
      refine KE_then ?_
      refine VC_seq ?_
      refine VC_seq ?_
      refine VC_draw MIX [] 28 rfl ?_
      refine RVd_take (fuel' := 23) TOK [] [(0, 0), (1, 0), (2, 0), (3, 0), (4, 0)] [0, 1, 2, 6, 7, 8, 9, 62] [] #[true, true, true, true, true, false, false, false, false, false, false, false, false, false, false, false, false, false, false, false, false, false, false, false, false, false, false, false] [(0, .string (B l)), (1, .int .i64 (p : Int)), (2, .int .u8 (e.toNat : Int)), (6, .int .i64 0), (7, .int .i64 0), (8, .int .i64 (i : Int)), (9, .int .i64 (n : Int)), (62, .bool (decide ((i : Int) ≥ (l.length : Int))))] [] [] (by kernel_rfl) (by kernel_rfl) (by kernel_rfl) (by kernel_rfl) ROL_nil trivial ?_
      refine RVd_case (decide ((i : Int) ≥ (l.length : Int))) (fun bb => ⟨[(0, .string (B l)), (1, .int .i64 (p : Int)), (2, .int .u8 (e.toNat : Int)), (6, .int .i64 0), (7, .int .i64 0), (8, .int .i64 (i : Int)), (9, .int .i64 (n : Int)), (62, .bool bb)], []⟩) (by kernel_rfl) (fun h123 => ?_) (fun h123 => ?_)
      · skip
        replace h123 := of_decide_eq_true h123
        refine RVd_take (fuel' := 0) TOK [] [(5, 0), (6, 0), (7, 0), (8, 0), (9, 0), (10, 0), (11, 0), (12, 0), (13, 0), (14, 0), (15, 0), (16, 0), (17, 0), (18, 0), (19, 0), (20, 0), (21, 0), (22, 0), (23, 0), (24, 0), (25, 0), (26, 0), (27, 0)] [6, 7, 8, 9, 85] [] #[true, true, true, true, true, true, true, true, true, true, true, true, true, true, true, true, true, true, true, true, true, true, true, true, true, true, true, true] [(6, .int .i64 0), (7, .int .i64 0), (8, .int .i64 (i : Int)), (9, .int .i64 (n : Int)), (85, .bool true)] [] [] (by kernel_rfl) (by kernel_rfl) (by kernel_rfl) (by kernel_rfl) ROL_nil trivial ?_
        refine RVd_end (by kernel_rfl) ?_
        refine KE_then ?_
        refine VC_true (by kernel_rfl) ?_
        refine VC_go (hs := [0, 0]) TOK [6, 7, 8, 9] ⟨[(6, .int .i64 0), (7, .int .i64 (-1)), (8, .int .i64 (i : Int)), (9, .int .i64 (n : Int))], []⟩ [] (by kernel_rfl) (by kernel_rfl) ?_
        refine VC_ret (ls := []) TOK [] 0 false [] [.int .i64 0, .int .i64 (-1)] [] ([]) rfl (by kernel_rfl) (by kernel_rfl) (fun w9 hx9 => ?_)
        show ∃ k r, (.tuple #[.int .i64 0, .int .i64 (-1)] : Value) = .tuple #[.int .i64 k, .int .i64 r] ∧ NumR l p e k r
        exact ⟨0, -1, rfl, num_no2 hJ (by unfold Stops; simp only [Dig]; omega) he (x := (n : Int)) (by simp only [signed, if_true, Bool.false_eq_true, if_false] <;> omega) (by first | exact .inl (by omega) | exact .inr (.inl (by assumption)) | exact .inr (.inr (.inl (by omega))) | exact .inr (.inr (.inr (.inl (by omega)))) | exact .inr (.inr (.inr (.inr (by assumption)))))⟩
      · skip
        replace h123 := of_decide_eq_false h123
        refine RVd_take (fuel' := 16) TOK [] [(5, 0), (6, 0), (7, 0), (8, 0), (9, 0), (10, 0), (11, 0)] [0, 1, 6, 7, 8, 9, 69] [] #[true, true, true, true, true, true, true, true, true, true, true, true, false, false, false, false, false, false, false, false, false, false, false, false, false, false, false, false] [(0, .string (B l)), (1, .int .i64 (p : Int)), (6, .int .i64 0), (7, .int .i64 0), (8, .int .i64 (i : Int)), (9, .int .i64 (n : Int)), (69, .bool (((l.getD i 0).toNat : Int) != (e.toNat : Int)))] [] [.lt (i : Int) l.length] (by kernel_rfl) (by kernel_rfl) (by kernel_rfl) (by kernel_rfl) ROL_nil (by simp only [Conds, Cond.holds, and_true]; first | omega | (have hle := hJ.le; omega)) ?_
        refine RVd_case (((l.getD i 0).toNat : Int) != (e.toNat : Int)) (fun bb => ⟨[(0, .string (B l)), (1, .int .i64 (p : Int)), (6, .int .i64 0), (7, .int .i64 0), (8, .int .i64 (i : Int)), (9, .int .i64 (n : Int)), (69, .bool bb)], []⟩) (by kernel_rfl) (fun h124 => ?_) (fun h124 => ?_)
        · skip
          replace h124 := bne_iff_ne.1 h124
          refine RVd_take (fuel' := 0) TOK [] [(12, 0), (13, 0), (14, 0), (15, 0), (16, 0), (17, 0), (18, 0), (19, 0), (20, 0), (21, 0), (22, 0), (23, 0), (24, 0), (25, 0), (26, 0), (27, 0)] [6, 7, 8, 9, 85] [] #[true, true, true, true, true, true, true, true, true, true, true, true, true, true, true, true, true, true, true, true, true, true, true, true, true, true, true, true] [(6, .int .i64 0), (7, .int .i64 0), (8, .int .i64 (i : Int)), (9, .int .i64 (n : Int)), (85, .bool true)] [] [] (by kernel_rfl) (by kernel_rfl) (by kernel_rfl) (by kernel_rfl) ROL_nil trivial ?_
          refine RVd_end (by kernel_rfl) ?_
          refine KE_then ?_
          refine VC_true (by kernel_rfl) ?_
          refine VC_go (hs := [0, 0]) TOK [6, 7, 8, 9] ⟨[(6, .int .i64 0), (7, .int .i64 (-1)), (8, .int .i64 (i : Int)), (9, .int .i64 (n : Int))], []⟩ [] (by kernel_rfl) (by kernel_rfl) ?_
          refine VC_ret (ls := []) TOK [] 0 false [] [.int .i64 0, .int .i64 (-1)] [] ([]) rfl (by kernel_rfl) (by kernel_rfl) (fun w9 hx9 => ?_)
          show ∃ k r, (.tuple #[.int .i64 0, .int .i64 (-1)] : Value) = .tuple #[.int .i64 k, .int .i64 r] ∧ NumR l p e k r
          exact ⟨0, -1, rfl, num_no2 hJ (by unfold Stops; simp only [Dig]; omega) he (x := (n : Int)) (by simp only [signed, if_true, Bool.false_eq_true, if_false] <;> omega) (by first | exact .inl (by omega) | exact .inr (.inl (by assumption)) | exact .inr (.inr (.inl (by omega))) | exact .inr (.inr (.inr (.inl (by omega)))) | exact .inr (.inr (.inr (.inr (by assumption)))))⟩
        · skip
          replace h124 : ((l.getD i 0).toNat : Int) = (e.toNat : Int) := by simpa using h124
          refine RVd_take (fuel' := 12) TOK [] [(12, 0), (13, 0), (14, 0), (15, 0)] [0, 1, 6, 7, 8, 9, 73] [] #[true, true, true, true, true, true, true, true, true, true, true, true, true, true, true, true, false, false, false, false, false, false, false, false, false, false, false, false] [(0, .string (B l)), (1, .int .i64 (p : Int)), (6, .int .i64 0), (7, .int .i64 0), (8, .int .i64 (i : Int)), (9, .int .i64 (n : Int)), (73, .bool (decide ((n : Int) > 4611686018427387904)))] [] [] (by kernel_rfl) (by kernel_rfl) (by kernel_rfl) (by kernel_rfl) ROL_nil trivial ?_
          refine RVd_case (decide ((n : Int) > 4611686018427387904)) (fun bb => ⟨[(0, .string (B l)), (1, .int .i64 (p : Int)), (6, .int .i64 0), (7, .int .i64 0), (8, .int .i64 (i : Int)), (9, .int .i64 (n : Int)), (73, .bool bb)], []⟩) (by kernel_rfl) (fun h125 => ?_) (fun h125 => ?_)
          · skip
            replace h125 := of_decide_eq_true h125
            refine RVd_take (fuel' := 0) TOK [] [(16, 0), (17, 0), (18, 0), (19, 0), (20, 0), (21, 0), (22, 0), (23, 0), (24, 0), (25, 0), (26, 0), (27, 0)] [6, 7, 8, 9, 85] [] #[true, true, true, true, true, true, true, true, true, true, true, true, true, true, true, true, true, true, true, true, true, true, true, true, true, true, true, true] [(6, .int .i64 0), (7, .int .i64 0), (8, .int .i64 (i : Int)), (9, .int .i64 (n : Int)), (85, .bool true)] [] [] (by kernel_rfl) (by kernel_rfl) (by kernel_rfl) (by kernel_rfl) ROL_nil trivial ?_
            refine RVd_end (by kernel_rfl) ?_
            refine KE_then ?_
            refine VC_true (by kernel_rfl) ?_
            refine VC_go (hs := [0, 0]) TOK [6, 7, 8, 9] ⟨[(6, .int .i64 0), (7, .int .i64 (-1)), (8, .int .i64 (i : Int)), (9, .int .i64 (n : Int))], []⟩ [] (by kernel_rfl) (by kernel_rfl) ?_
            refine VC_ret (ls := []) TOK [] 0 false [] [.int .i64 0, .int .i64 (-1)] [] ([]) rfl (by kernel_rfl) (by kernel_rfl) (fun w9 hx9 => ?_)
            show ∃ k r, (.tuple #[.int .i64 0, .int .i64 (-1)] : Value) = .tuple #[.int .i64 k, .int .i64 r] ∧ NumR l p e k r
            exact ⟨0, -1, rfl, num_no2 hJ (by unfold Stops; simp only [Dig]; omega) he (x := (n : Int)) (by simp only [signed, if_true, Bool.false_eq_true, if_false] <;> omega) (by first | exact .inl (by omega) | exact .inr (.inl (by assumption)) | exact .inr (.inr (.inl (by omega))) | exact .inr (.inr (.inr (.inl (by omega)))) | exact .inr (.inr (.inr (.inr (by assumption)))))⟩
          · skip
            replace h125 := of_decide_eq_false h125
            refine RVd_take (fuel' := 8) TOK [] [(16, 0), (17, 0), (18, 0), (19, 0)] [0, 1, 6, 7, 8, 9, 77] [] #[true, true, true, true, true, true, true, true, true, true, true, true, true, true, true, true, true, true, true, true, false, false, false, false, false, false, false, false] [(0, .string (B l)), (1, .int .i64 (p : Int)), (6, .int .i64 0), (7, .int .i64 0), (8, .int .i64 (i : Int)), (9, .int .i64 (n : Int)), (77, .bool (decide ((n : Int) < (-4611686018427387904))))] [] [] (by kernel_rfl) (by kernel_rfl) (by kernel_rfl) (by kernel_rfl) ROL_nil trivial ?_
            refine RVd_case (decide ((n : Int) < (-4611686018427387904))) (fun bb => ⟨[(0, .string (B l)), (1, .int .i64 (p : Int)), (6, .int .i64 0), (7, .int .i64 0), (8, .int .i64 (i : Int)), (9, .int .i64 (n : Int)), (77, .bool bb)], []⟩) (by kernel_rfl) (fun h126 => ?_) (fun h126 => ?_)
            · skip
              replace h126 := of_decide_eq_true h126
              refine RVd_take (fuel' := 0) TOK [] [(20, 0), (21, 0), (22, 0), (23, 0), (24, 0), (25, 0), (26, 0), (27, 0)] [6, 7, 8, 9, 85] [] #[true, true, true, true, true, true, true, true, true, true, true, true, true, true, true, true, true, true, true, true, true, true, true, true, true, true, true, true] [(6, .int .i64 0), (7, .int .i64 0), (8, .int .i64 (i : Int)), (9, .int .i64 (n : Int)), (85, .bool true)] [] [] (by kernel_rfl) (by kernel_rfl) (by kernel_rfl) (by kernel_rfl) ROL_nil trivial ?_
              refine RVd_end (by kernel_rfl) ?_
              refine KE_then ?_
              refine VC_true (by kernel_rfl) ?_
              refine VC_go (hs := [0, 0]) TOK [6, 7, 8, 9] ⟨[(6, .int .i64 0), (7, .int .i64 (-1)), (8, .int .i64 (i : Int)), (9, .int .i64 (n : Int))], []⟩ [] (by kernel_rfl) (by kernel_rfl) ?_
              refine VC_ret (ls := []) TOK [] 0 false [] [.int .i64 0, .int .i64 (-1)] [] ([]) rfl (by kernel_rfl) (by kernel_rfl) (fun w9 hx9 => ?_)
              show ∃ k r, (.tuple #[.int .i64 0, .int .i64 (-1)] : Value) = .tuple #[.int .i64 k, .int .i64 r] ∧ NumR l p e k r
              exact ⟨0, -1, rfl, num_no2 hJ (by unfold Stops; simp only [Dig]; omega) he (x := (n : Int)) (by simp only [signed, if_true, Bool.false_eq_true, if_false] <;> omega) (by first | exact .inl (by omega) | exact .inr (.inl (by assumption)) | exact .inr (.inr (.inl (by omega))) | exact .inr (.inr (.inr (.inl (by omega)))) | exact .inr (.inr (.inr (.inr (by assumption)))))⟩
            · skip
              replace h126 := of_decide_eq_false h126
              refine RVd_take (fuel' := 3) TOK [] [(20, 0), (22, 0), (23, 0), (24, 0), (25, 0)] [6, 7, 8, 9, 77, 78, 83] [] #[true, true, true, true, true, true, true, true, true, true, true, true, true, true, true, true, true, true, true, true, true, false, true, true, true, true, false, false] [(6, .int .i64 0), (7, .int .i64 0), (8, .int .i64 (i : Int)), (9, .int .i64 (n : Int)), (77, .bool false), (78, .int .i64 (n : Int)), (83, .string ((B l).extract p i))] [] [.le (i : Int) l.length, .le (p : Int) i] (by kernel_rfl) (by kernel_rfl) (by kernel_rfl) (by kernel_rfl) ROL_nil (by simp only [Conds, Cond.holds, and_true]; first | omega | (have hle := hJ.le; omega)) ?_
              refine RVd_st ⟨[(6, .int .i64 0), (7, .int .i64 0), (8, .int .i64 (i : Int)), (9, .int .i64 (n : Int)), (77, .bool false), (78, .int .i64 (n : Int)), (83, .string (B ((l.take i).drop p)))], []⟩ (by rw [B_ext l p i]) ?_
              refine RVd_call (fuel := 2) 21 [] #[true, true, true, true, true, true, true, true, true, true, true, true, true, true, true, true, true, true, true, true, true, true, true, true, true, true, false, false] (f := 27) (vs := [.int .i64 (n : Int)]) (dst := (some 79)) (by kernel_rfl) (by kernel_rfl) (by kernel_rfl) E27 (by kernel_rfl) (fun wa hxe hp => f27 (n : Int) _ wa hp (by unfold InR; omega)) ?_
              rintro S127 w128 v129 _ hx130 rfl
              refine RVd_take (fuel' := 0) TOK [] [(26, 0), (27, 0)] [6, 7, 8, 9, 85] [] #[true, true, true, true, true, true, true, true, true, true, true, true, true, true, true, true, true, true, true, true, true, true, true, true, true, true, true, true] [(6, .int .i64 0), (7, .int .i64 0), (8, .int .i64 (i : Int)), (9, .int .i64 (n : Int)), (85, .bool (!((B (Lib.itoa (n : Int))).toList == (B ((l.take i).drop p)).toList)))] [] [] (by kernel_rfl) (by kernel_rfl) (by kernel_rfl) (by kernel_rfl) ROL_nil trivial ?_
              refine RVd_end (by kernel_rfl) ?_
              refine KE_then ?_
              refine VC_cond (!((B (Lib.itoa (n : Int))).toList == (B ((l.take i).drop p)).toList)) (by kernel_rfl) (fun h131 => ?_) (fun h131 => ?_)
              · skip
                have h131 : ((B (Lib.itoa (n : Int))).toList == (B ((l.take i).drop p)).toList) = false := by simpa using h131
                replace h131 := B_ne h131
                refine VC_go (hs := [0, 0]) TOK [6, 7, 8, 9] ⟨[(6, .int .i64 0), (7, .int .i64 (-1)), (8, .int .i64 (i : Int)), (9, .int .i64 (n : Int))], []⟩ [] (by kernel_rfl) (by kernel_rfl) ?_
                refine VC_ret (ls := []) TOK [] 0 false [] [.int .i64 0, .int .i64 (-1)] [] ([]) rfl (by kernel_rfl) (by kernel_rfl) (fun w9 hx9 => ?_)
                show ∃ k r, (.tuple #[.int .i64 0, .int .i64 (-1)] : Value) = .tuple #[.int .i64 k, .int .i64 r] ∧ NumR l p e k r
                exact ⟨0, -1, rfl, num_no2 hJ (by unfold Stops; simp only [Dig]; omega) he (x := (n : Int)) (by simp only [signed, if_true, Bool.false_eq_true, if_false] <;> omega) (by first | exact .inl (by omega) | exact .inr (.inl (by assumption)) | exact .inr (.inr (.inl (by omega))) | exact .inr (.inr (.inr (.inl (by omega)))) | exact .inr (.inr (.inr (.inr (by assumption)))))⟩
              · skip
                have h131 : ((B (Lib.itoa (n : Int))).toList == (B ((l.take i).drop p)).toList) = true := by simpa using h131
                replace h131 := B_eq h131
                refine VC_skip ?_
                refine KE_then ?_
                refine VC_seq ?_
                refine VC_region 5 rfl ?_
                refine RV_go (hs := [0, 0, 0]) (c' := 2) (k' := 3) TOK [6, 7, 86, 88] ⟨[(6, .int .i64 0), (7, .int .i64 0), (86, .int .i64 (n : Int)), (88, .int .i64 (IntKind.i64.wrap ((i : Int) + 1)))], []⟩ [] (by kernel_rfl) (by kernel_rfl) ?_
                refine RV_st ⟨[(6, .int .i64 0), (7, .int .i64 0), (86, .int .i64 (n : Int)), (88, .int .i64 ((i : Int) + 1))], []⟩ (by rw [wrap_id (x := (i : Int) + 1) (by unfold InR; first | omega | (have hu := UInt8.toNat_lt (l.getD i 0); omega))]) ?_
                refine RV_go (hs := [0, 0]) (c' := 0) (k' := 5) TOK [6, 7] ⟨[(6, .int .i64 (n : Int)), (7, .int .i64 ((i : Int) + 1))], []⟩ [] (by kernel_rfl) (by kernel_rfl) ?_
                refine RV_end ?_
                refine KE_then ?_
                refine VC_ret (ls := []) TOK [] 0 false [] [.int .i64 (n : Int), .int .i64 ((i : Int) + 1)] [] ([]) rfl (by kernel_rfl) (by kernel_rfl) (fun w9 hx9 => ?_)
                show ∃ k r, (.tuple #[.int .i64 (n : Int), .int .i64 ((i : Int) + 1)] : Value) = .tuple #[.int .i64 k, .int .i64 r] ∧ NumR l p e k r
                exact ⟨_, _, rfl, num_yes2 hJ (x := (n : Int)) (by simp only [signed, if_true, Bool.false_eq_true, if_false] <;> omega) (by omega) (by assumption) (by omega) (by omega) (by assumption) (by first | rfl | omega)⟩

end Go.YtmfkmoecbnghhaaDoor
