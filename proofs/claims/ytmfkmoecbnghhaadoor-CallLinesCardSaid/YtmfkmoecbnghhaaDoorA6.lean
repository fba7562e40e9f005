/- Contracts of functions, over the symbolic executor: each comes to what its theorem says. Written by gen.py, a program of this work. -/
import Derived.Test.YtmfkmoecbnghhaaDoorA5
namespace Go.YtmfkmoecbnghhaaDoor
open Go Eng Go.Proofs Law
set_option linter.unusedVariables false
set_option linter.unusedSimpArgs false

theorem f26c (x : Int) (S : Nat → Prop) (w : World) (hP : Pre S w []) (h : 0 ≤ x ∧ x ≤ 9) : Calls Tryd.prog 26 #[.int .i64 x] w (Ret S w [] fun v ls S w => v = .string (B (wordL x.toNat))) := by
  obtain ⟨k, rfl⟩ := Int.eq_ofNat_of_zero_le h.1
  exact f26 k (by omega) S w hP
theorem pr_step {xs : List Sc} {i : Nat} {c : Sc} (hi : i < xs.length) (hc : xs[i] = c) : printL (xs.take (i + 1)) = printL (xs.take i) ++ wordL c.no.toNat ++ [32] ++ Lib.itoa c.a ++ [32] ++ Lib.itoa c.b ++ [10] := by
  rw [List.take_add_one, List.getElem?_eq_getElem hi, printL_app, hc]
  simp [printL, scL]
theorem itoa_len {n : Int} (h : InR n) : (Lib.itoa n).length ≤ 20 := by
  unfold InR at h
  unfold Lib.itoa
  split
  · simp only [List.length_cons]
    have := decDigits_len (n := n.natAbs) (by omega)
    omega
  · have := decDigits_len (n := n.toNat) (by omega)
    omega
theorem sc_len {c : Sc} (h : Wr c) : (scL c).length ≤ 50 := by
  have h1 := word_len c.no.toNat (by have := h.1; omega)
  have h2 := itoa_len (wr_inR h).2.1
  have h3 := itoa_len (wr_inR h).2.2
  simp only [scL, List.length_append, List.length_cons, List.length_nil]
  omega
theorem print_len : ∀ {cs : List Sc}, (∀ c ∈ cs, Wr c) → (printL cs).length ≤ 50 * cs.length
  | [], _ => Nat.zero_le _
  | c :: cs, h => by
    have h1 := sc_len (h c (by simp))
    have h2 := print_len fun d hd => h d (List.mem_cons_of_mem _ hd)
    simp only [printL, List.length_append, List.length_cons]
    omega
theorem take_len {xs : List Sc} {i : Nat} (hw : ∀ c ∈ xs, Wr c) (hi : i ≤ xs.length) : (printL (xs.take i)).length ≤ 50 * i := by
  have := print_len (cs := xs.take i) fun c hc => hw c (List.mem_of_mem_take hc)
  rw [List.length_take] at this
  omega

theorem f15 (x : Sl) (xs : List Sc) (S : Nat → Prop) (w : World) (hP : Pre S w []) (hx : RSl scE S w x xs) (hw : ∀ c ∈ xs, Wr c) (hb : xs.length ≤ 1000) :
    Calls Tryd.prog 15 #[.slice x.a x.n x.c] w (Ret S w [] fun v_ ls_ S_ w_ => v_ = .string (B (printL xs))) := by
  have hxn := hx.n
  refine Calls_of_VC (ls := []) ⟨[(0, .slice x.a x.n x.c)], []⟩ Tryd.func15 rfl (by kernel_rfl) (by kernel_rfl) hP ?_
  refine VC_go (hs := [0]) TOK [0, 2] ⟨[(0, .slice x.a x.n x.c), (2, .string (B ([] : List UInt8)))], []⟩ [] (by kernel_rfl) (by kernel_rfl) ?_
  refine VC_go (hs := [0]) TOK [0, 2, 3] ⟨[(0, .slice x.a x.n x.c), (2, .string (B ([] : List UInt8))), (3, .string (B ([] : List UInt8)))], []⟩ [] (by kernel_rfl) (by kernel_rfl) ?_
  refine VC_seq ?_
  refine VC_go (hs := [0]) TOK [0, 2, 3, 4] ⟨[(0, .slice x.a x.n x.c), (2, .string (B ([] : List UInt8))), (3, .string (B ([] : List UInt8))), (4, .int .i64 0)], []⟩ [] (by kernel_rfl) (by kernel_rfl) ?_
  refine VC_block ?_
  refine VC_keep [0, 2, 3, 4] [] 0 ⟨[(0, .slice x.a x.n x.c), (2, .string (B ([] : List UInt8))), (3, .string (B (printL (xs.take 0)))), (4, .int .i64 (0 : Int))], []⟩ (by kernel_rfl) (by kernel_rfl) ?_
  refine VC_loop (J := fun m_ S' w' st_ => ∃ (i : Nat), (i ≤ xs.length) ∧ m_ = x.n - i ∧ Ext S w S' w' ∧ st_ = ⟨[(0, .slice x.a x.n x.c), (2, .string (B ([] : List UInt8))), (3, .string (B (printL (xs.take i)))), (4, .int .i64 (i : Int))], []⟩) (x.n - 0) ⟨0, (by exact Nat.zero_le _), rfl, Ext.refl _ _, rfl⟩ ?_
  rintro _ S1 w2 _ ⟨i, hi, rfl, hx3, rfl⟩
  have hx := hx.ext hx3
  -- a round
  refine VC_seq ?_
  refine VC_go (hs := [0, 0, 0, 0]) TOK [0, 2, 3, 4, 8] ⟨[(0, .slice x.a x.n x.c), (2, .string (B ([] : List UInt8))), (3, .string (B (printL (xs.take i)))), (4, .int .i64 (i : Int)), (8, .bool (decide ((i : Int) < (x.n : Int))))], []⟩ [] (by kernel_rfl) (by kernel_rfl) ?_
  refine VC_cond (decide ((i : Int) < (x.n : Int))) (by kernel_rfl) (fun h4 => ?_) (fun h4 => ?_)
  · skip
    replace h4 := of_decide_eq_true h4
    refine VC_skip ?_
    refine KE_then ?_
    refine VC_seq ?_
    refine VC_block ?_
    have hx_0 := hx
    refine VC_draw MIX [] 26 rfl ?_
    refine RVd_take (fuel' := 19) TOK [] [(0, 0), (1, 0), (2, 0), (9, 0), (10, 0), (17, 0), (18, 0)] [0, 2, 3, 4, 11, 12, 13, 20, 21, 28, 29] [] #[true, true, true, false, false, false, false, false, false, true, true, false, false, false, false, false, false, true, true, false, false, false, false, false, false, false] [(0, .slice x.a x.n x.c), (2, .string (B ([] : List UInt8))), (3, .string (B (printL (xs.take i)))), (4, .int .i64 (i : Int)), (11, .string (B (printL (xs.take i)))), (12, .slice x.a x.n x.c), (13, .int .i64 (i : Int)), (20, .slice x.a x.n x.c), (21, .int .i64 (i : Int)), (28, .slice x.a x.n x.c), (29, .int .i64 (i : Int))] [] [] (by kernel_rfl) (by kernel_rfl) (by kernel_rfl) (by kernel_rfl) ROL_nil trivial ?_
    obtain ⟨b5, o6, ha7⟩ := hx.addr (Nat.lt_of_le_of_lt (Nat.zero_le i) (by have := hx.n; omega))
    refine RVd_st ⟨[(0, .slice (some ⟨b5, o6, none⟩) x.n x.c), (2, .string (B ([] : List UInt8))), (3, .string (B (printL (xs.take i)))), (4, .int .i64 (i : Int)), (11, .string (B (printL (xs.take i)))), (12, .slice (some ⟨b5, o6, none⟩) x.n x.c), (13, .int .i64 (i : Int)), (20, .slice (some ⟨b5, o6, none⟩) x.n x.c), (21, .int .i64 (i : Int)), (28, .slice (some ⟨b5, o6, none⟩) x.n x.c), (29, .int .i64 (i : Int))], []⟩ (by simp only [ha7]) ?_
    obtain ⟨vs_, hro8, hrep11⟩ := hx_0.here ha7 i (by have := hx.n; omega)
    generalize hce10 : (xs[i]'(by have := hx.n; omega)) = c9 at hrep11
    obtain ⟨rfl, hr1, hr2, hr3⟩ := hrep11
    have hwc : Wr c9 := hce10 ▸ hw _ (List.getElem_mem _)
    have hl1 := word_len c9.no.toNat (by have := hwc.1; omega)
    have hl2 := itoa_len hr2
    have hl3 := itoa_len hr3
    have hl4 := take_len hw (i := i) (by omega)
    refine RVd_take (fuel' := 10) TOK [⟨b5, o6 + i * 3, [.int .i64 c9.no, .int .i64 c9.a, .int .i64 c9.b]⟩] [(3, 0), (4, 0), (5, 1000), (11, 0), (12, 0), (13, 1001), (19, 0), (20, 0), (21, 1002)] [0, 2, 3, 4, 11, 16, 24, 32] [] #[true, true, true, true, true, true, false, false, false, true, true, true, true, true, false, false, false, true, true, true, true, true, false, false, false, false] [(0, .slice (some ⟨b5, o6, none⟩) x.n x.c), (2, .string (B ([] : List UInt8))), (3, .string (B (printL (xs.take i)))), (4, .int .i64 (i : Int)), (11, .string (B (printL (xs.take i)))), (16, .int .i64 c9.no), (24, .int .i64 c9.a), (32, .int .i64 c9.b)] [b5, o6 + i * 3, b5, o6 + i * 3 + 1, b5, o6 + i * 3 + 2] [.lt (i : Int) x.n, .lt (i : Int) x.n, .lt (i : Int) x.n] (by kernel_rfl) (by kernel_rfl) (by kernel_rfl) (by kernel_rfl) (ROL_std hro8 ROL_nil) (by simp only [Conds, Cond.holds, and_true]; (first | omega | (simp only [List.length_append, List.length_cons, List.length_nil] <;> omega))) ?_
    refine RVd_call (fuel := 9) 6 [] #[true, true, true, true, true, true, true, false, false, true, true, true, true, true, false, false, false, true, true, true, true, true, false, false, false, false] (f := 26) (vs := [.int .i64 c9.no]) (dst := (some 17)) (by kernel_rfl) (by kernel_rfl) (by kernel_rfl) E26 (by kernel_rfl) (fun wa hxe hp => f26c c9.no _ wa hp (by have := hwc.1; omega)) ?_
    rintro S12 w13 v14 _ hx15 rfl
    have hx := hx.ext hx15
    refine RVd_take (fuel' := 8) TOK [] [(7, 0)] [0, 2, 3, 4, 18, 24, 32] [] #[true, true, true, true, true, true, true, true, false, true, true, true, true, true, false, false, false, true, true, true, true, true, false, false, false, false] [(0, .slice (some ⟨b5, o6, none⟩) x.n x.c), (2, .string (B ([] : List UInt8))), (3, .string (B (printL (xs.take i)))), (4, .int .i64 (i : Int)), (18, .string (B (printL (xs.take i)) ++ B (wordL c9.no.toNat))), (24, .int .i64 c9.a), (32, .int .i64 c9.b)] [] [.sz ((printL (xs.take i)).length + (wordL c9.no.toNat).length)] (by kernel_rfl) (by kernel_rfl) (by kernel_rfl) (by kernel_rfl) ROL_nil (by simp only [Conds, Cond.holds, and_true]; (first | omega | (simp only [List.length_append, List.length_cons, List.length_nil] <;> omega))) ?_
    refine RVd_st ⟨[(0, .slice (some ⟨b5, o6, none⟩) x.n x.c), (2, .string (B ([] : List UInt8))), (3, .string (B (printL (xs.take i)))), (4, .int .i64 (i : Int)), (18, .string (B ((printL (xs.take i)) ++ (wordL c9.no.toNat)))), (24, .int .i64 c9.a), (32, .int .i64 c9.b)], []⟩ (by rw [B_app (printL (xs.take i)) (wordL c9.no.toNat)]) ?_
    refine RVd_take (fuel' := 7) TOK [] [(8, 0)] [0, 2, 3, 4, 19, 24, 32] [] #[true, true, true, true, true, true, true, true, true, true, true, true, true, true, false, false, false, true, true, true, true, true, false, false, false, false] [(0, .slice (some ⟨b5, o6, none⟩) x.n x.c), (2, .string (B ([] : List UInt8))), (3, .string (B (printL (xs.take i)))), (4, .int .i64 (i : Int)), (19, .string (B ((printL (xs.take i)) ++ (wordL c9.no.toNat)) ++ B ([32] : List UInt8))), (24, .int .i64 c9.a), (32, .int .i64 c9.b)] [] [.sz (((printL (xs.take i)) ++ (wordL c9.no.toNat)).length + ([32] : List UInt8).length)] (by kernel_rfl) (by kernel_rfl) (by kernel_rfl) (by kernel_rfl) ROL_nil (by simp only [Conds, Cond.holds, and_true]; (first | omega | (simp only [List.length_append, List.length_cons, List.length_nil] <;> omega))) ?_
    refine RVd_st ⟨[(0, .slice (some ⟨b5, o6, none⟩) x.n x.c), (2, .string (B ([] : List UInt8))), (3, .string (B (printL (xs.take i)))), (4, .int .i64 (i : Int)), (19, .string (B (((printL (xs.take i)) ++ (wordL c9.no.toNat)) ++ ([32] : List UInt8)))), (24, .int .i64 c9.a), (32, .int .i64 c9.b)], []⟩ (by rw [B_app ((printL (xs.take i)) ++ (wordL c9.no.toNat)) ([32] : List UInt8)]) ?_
    refine RVd_call (fuel := 6) 14 [] #[true, true, true, true, true, true, true, true, true, true, true, true, true, true, true, false, false, true, true, true, true, true, false, false, false, false] (f := 27) (vs := [.int .i64 c9.a]) (dst := (some 25)) (by kernel_rfl) (by kernel_rfl) (by kernel_rfl) E27 (by kernel_rfl) (fun wa hxe hp => f27 c9.a _ wa hp hr2) ?_
    rintro S16 w17 v18 _ hx19 rfl
    have hx := hx.ext hx19
    refine RVd_take (fuel' := 5) TOK [] [(15, 0)] [0, 2, 3, 4, 26, 32] [] #[true, true, true, true, true, true, true, true, true, true, true, true, true, true, true, true, false, true, true, true, true, true, false, false, false, false] [(0, .slice (some ⟨b5, o6, none⟩) x.n x.c), (2, .string (B ([] : List UInt8))), (3, .string (B (printL (xs.take i)))), (4, .int .i64 (i : Int)), (26, .string (B (((printL (xs.take i)) ++ (wordL c9.no.toNat)) ++ ([32] : List UInt8)) ++ B (Lib.itoa c9.a))), (32, .int .i64 c9.b)] [] [.sz ((((printL (xs.take i)) ++ (wordL c9.no.toNat)) ++ ([32] : List UInt8)).length + (Lib.itoa c9.a).length)] (by kernel_rfl) (by kernel_rfl) (by kernel_rfl) (by kernel_rfl) ROL_nil (by simp only [Conds, Cond.holds, and_true]; (first | omega | (simp only [List.length_append, List.length_cons, List.length_nil] <;> omega))) ?_
    refine RVd_st ⟨[(0, .slice (some ⟨b5, o6, none⟩) x.n x.c), (2, .string (B ([] : List UInt8))), (3, .string (B (printL (xs.take i)))), (4, .int .i64 (i : Int)), (26, .string (B ((((printL (xs.take i)) ++ (wordL c9.no.toNat)) ++ ([32] : List UInt8)) ++ (Lib.itoa c9.a)))), (32, .int .i64 c9.b)], []⟩ (by rw [B_app (((printL (xs.take i)) ++ (wordL c9.no.toNat)) ++ ([32] : List UInt8)) (Lib.itoa c9.a)]) ?_
    refine RVd_take (fuel' := 4) TOK [] [(16, 0)] [0, 2, 3, 4, 27, 32] [] #[true, true, true, true, true, true, true, true, true, true, true, true, true, true, true, true, true, true, true, true, true, true, false, false, false, false] [(0, .slice (some ⟨b5, o6, none⟩) x.n x.c), (2, .string (B ([] : List UInt8))), (3, .string (B (printL (xs.take i)))), (4, .int .i64 (i : Int)), (27, .string (B ((((printL (xs.take i)) ++ (wordL c9.no.toNat)) ++ ([32] : List UInt8)) ++ (Lib.itoa c9.a)) ++ B ([32] : List UInt8))), (32, .int .i64 c9.b)] [] [.sz (((((printL (xs.take i)) ++ (wordL c9.no.toNat)) ++ ([32] : List UInt8)) ++ (Lib.itoa c9.a)).length + ([32] : List UInt8).length)] (by kernel_rfl) (by kernel_rfl) (by kernel_rfl) (by kernel_rfl) ROL_nil (by simp only [Conds, Cond.holds, and_true]; (first | omega | (simp only [List.length_append, List.length_cons, List.length_nil] <;> omega))) ?_
    refine RVd_st ⟨[(0, .slice (some ⟨b5, o6, none⟩) x.n x.c), (2, .string (B ([] : List UInt8))), (3, .string (B (printL (xs.take i)))), (4, .int .i64 (i : Int)), (27, .string (B (((((printL (xs.take i)) ++ (wordL c9.no.toNat)) ++ ([32] : List UInt8)) ++ (Lib.itoa c9.a)) ++ ([32] : List UInt8)))), (32, .int .i64 c9.b)], []⟩ (by rw [B_app ((((printL (xs.take i)) ++ (wordL c9.no.toNat)) ++ ([32] : List UInt8)) ++ (Lib.itoa c9.a)) ([32] : List UInt8)]) ?_
    refine RVd_call (fuel := 3) 22 [] #[true, true, true, true, true, true, true, true, true, true, true, true, true, true, true, true, true, true, true, true, true, true, true, false, false, false] (f := 27) (vs := [.int .i64 c9.b]) (dst := (some 33)) (by kernel_rfl) (by kernel_rfl) (by kernel_rfl) E27 (by kernel_rfl) (fun wa hxe hp => f27 c9.b _ wa hp hr3) ?_
    rintro S20 w21 v22 _ hx23 rfl
    have hx := hx.ext hx23
    refine RVd_take (fuel' := 2) TOK [] [(23, 0)] [0, 2, 3, 4, 34] [] #[true, true, true, true, true, true, true, true, true, true, true, true, true, true, true, true, true, true, true, true, true, true, true, true, false, false] [(0, .slice (some ⟨b5, o6, none⟩) x.n x.c), (2, .string (B ([] : List UInt8))), (3, .string (B (printL (xs.take i)))), (4, .int .i64 (i : Int)), (34, .string (B (((((printL (xs.take i)) ++ (wordL c9.no.toNat)) ++ ([32] : List UInt8)) ++ (Lib.itoa c9.a)) ++ ([32] : List UInt8)) ++ B (Lib.itoa c9.b)))] [] [.sz ((((((printL (xs.take i)) ++ (wordL c9.no.toNat)) ++ ([32] : List UInt8)) ++ (Lib.itoa c9.a)) ++ ([32] : List UInt8)).length + (Lib.itoa c9.b).length)] (by kernel_rfl) (by kernel_rfl) (by kernel_rfl) (by kernel_rfl) ROL_nil (by simp only [Conds, Cond.holds, and_true]; (first | omega | (simp only [List.length_append, List.length_cons, List.length_nil] <;> omega))) ?_
    refine RVd_st ⟨[(0, .slice (some ⟨b5, o6, none⟩) x.n x.c), (2, .string (B ([] : List UInt8))), (3, .string (B (printL (xs.take i)))), (4, .int .i64 (i : Int)), (34, .string (B ((((((printL (xs.take i)) ++ (wordL c9.no.toNat)) ++ ([32] : List UInt8)) ++ (Lib.itoa c9.a)) ++ ([32] : List UInt8)) ++ (Lib.itoa c9.b))))], []⟩ (by rw [B_app (((((printL (xs.take i)) ++ (wordL c9.no.toNat)) ++ ([32] : List UInt8)) ++ (Lib.itoa c9.a)) ++ ([32] : List UInt8)) (Lib.itoa c9.b)]) ?_
    refine RVd_take (fuel' := 1) TOK [] [(24, 0)] [0, 2, 3, 4, 35] [] #[true, true, true, true, true, true, true, true, true, true, true, true, true, true, true, true, true, true, true, true, true, true, true, true, true, false] [(0, .slice (some ⟨b5, o6, none⟩) x.n x.c), (2, .string (B ([] : List UInt8))), (3, .string (B (printL (xs.take i)))), (4, .int .i64 (i : Int)), (35, .string (B ((((((printL (xs.take i)) ++ (wordL c9.no.toNat)) ++ ([32] : List UInt8)) ++ (Lib.itoa c9.a)) ++ ([32] : List UInt8)) ++ (Lib.itoa c9.b)) ++ B ([10] : List UInt8)))] [] [.sz (((((((printL (xs.take i)) ++ (wordL c9.no.toNat)) ++ ([32] : List UInt8)) ++ (Lib.itoa c9.a)) ++ ([32] : List UInt8)) ++ (Lib.itoa c9.b)).length + ([10] : List UInt8).length)] (by kernel_rfl) (by kernel_rfl) (by kernel_rfl) (by kernel_rfl) ROL_nil (by simp only [Conds, Cond.holds, and_true]; (first | omega | (simp only [List.length_append, List.length_cons, List.length_nil] <;> omega))) ?_
    refine RVd_st ⟨[(0, .slice (some ⟨b5, o6, none⟩) x.n x.c), (2, .string (B ([] : List UInt8))), (3, .string (B (printL (xs.take i)))), (4, .int .i64 (i : Int)), (35, .string (B (((((((printL (xs.take i)) ++ (wordL c9.no.toNat)) ++ ([32] : List UInt8)) ++ (Lib.itoa c9.a)) ++ ([32] : List UInt8)) ++ (Lib.itoa c9.b)) ++ ([10] : List UInt8))))], []⟩ (by rw [B_app ((((((printL (xs.take i)) ++ (wordL c9.no.toNat)) ++ ([32] : List UInt8)) ++ (Lib.itoa c9.a)) ++ ([32] : List UInt8)) ++ (Lib.itoa c9.b)) ([10] : List UInt8)]) ?_
    refine RVd_take (fuel' := 0) TOK [] [(25, 0)] [0, 2, 3, 4] [] #[true, true, true, true, true, true, true, true, true, true, true, true, true, true, true, true, true, true, true, true, true, true, true, true, true, true] [(0, .slice (some ⟨b5, o6, none⟩) x.n x.c), (2, .string (B ([] : List UInt8))), (3, .string (B (((((((printL (xs.take i)) ++ (wordL c9.no.toNat)) ++ ([32] : List UInt8)) ++ (Lib.itoa c9.a)) ++ ([32] : List UInt8)) ++ (Lib.itoa c9.b)) ++ ([10] : List UInt8)))), (4, .int .i64 (i : Int))] [] [] (by kernel_rfl) (by kernel_rfl) (by kernel_rfl) (by kernel_rfl) ROL_nil trivial ?_
    refine RVd_end (by kernel_rfl) ?_
    refine KE_block ?_
    refine KE_then ?_
    refine VC_region 3 rfl ?_
    refine RV_go (hs := [0, 0]) (c' := 1) (k' := 2) TOK [0, 2, 3, 4, 10] ⟨[(0, .slice (some ⟨b5, o6, none⟩) x.n x.c), (2, .string (B ([] : List UInt8))), (3, .string (B (((((((printL (xs.take i)) ++ (wordL c9.no.toNat)) ++ ([32] : List UInt8)) ++ (Lib.itoa c9.a)) ++ ([32] : List UInt8)) ++ (Lib.itoa c9.b)) ++ ([10] : List UInt8)))), (4, .int .i64 (i : Int)), (10, .int .i64 (IntKind.i64.wrap ((i : Int) + 1)))], []⟩ [] (by kernel_rfl) (by kernel_rfl) ?_
    refine RV_st ⟨[(0, .slice (some ⟨b5, o6, none⟩) x.n x.c), (2, .string (B ([] : List UInt8))), (3, .string (B (((((((printL (xs.take i)) ++ (wordL c9.no.toNat)) ++ ([32] : List UInt8)) ++ (Lib.itoa c9.a)) ++ ([32] : List UInt8)) ++ (Lib.itoa c9.b)) ++ ([10] : List UInt8)))), (4, .int .i64 (i : Int)), (10, .int .i64 ((i : Int) + 1))], []⟩ (by rw [wrap_id (x := (i : Int) + 1) (by unfold InR; omega)]) ?_
    refine RV_go (hs := [0]) (c' := 0) (k' := 3) TOK [0, 2, 3, 4] ⟨[(0, .slice (some ⟨b5, o6, none⟩) x.n x.c), (2, .string (B ([] : List UInt8))), (3, .string (B (((((((printL (xs.take i)) ++ (wordL c9.no.toNat)) ++ ([32] : List UInt8)) ++ (Lib.itoa c9.a)) ++ ([32] : List UInt8)) ++ (Lib.itoa c9.b)) ++ ([10] : List UInt8)))), (4, .int .i64 ((i : Int) + 1))], []⟩ [] (by kernel_rfl) (by kernel_rfl) ?_
    refine RV_end ?_
    refine KE_st ⟨[(0, .slice x.a x.n x.c), (2, .string (B ([] : List UInt8))), (3, .string (B (((((((printL (xs.take i)) ++ (wordL c9.no.toNat)) ++ ([32] : List UInt8)) ++ (Lib.itoa c9.a)) ++ ([32] : List UInt8)) ++ (Lib.itoa c9.b)) ++ ([10] : List UInt8)))), (4, .int .i64 ((i : Int) + 1))], []⟩ (by simp only [ha7]) ?_
    refine KE_st ⟨[(0, .slice x.a x.n x.c), (2, .string (B ([] : List UInt8))), (3, .string (B (printL (xs.take (i + 1))))), (4, .int .i64 ((i : Int) + 1))], []⟩ (by rw [pr_step (by omega) hce10]) ?_
    refine KE_rnd (x.n - (i + 1)) [0, 2, 3, 4] [] 0 ⟨[(0, .slice x.a x.n x.c), (2, .string (B ([] : List UInt8))), (3, .string (B (printL (xs.take (i + 1))))), (4, .int .i64 (((i + 1) : Nat) : Int))], []⟩ (by kernel_rfl) (by kernel_rfl) (by omega) ⟨(i + 1), (by omega), rfl, (hx3.trans (hx15.trans (hx19.trans hx23))), rfl⟩
  · skip
    replace h4 := of_decide_eq_false h4
    refine VC_exit ?_
    refine KE_exit_then ?_
    refine KE_exit_then ?_
    refine KE_exit_here ?_
    refine KE_then ?_
    refine VC_go (hs := [0, 0]) TOK [2] ⟨[(2, .string (B (printL (xs.take i))))], []⟩ [] (by kernel_rfl) (by kernel_rfl) ?_
    refine VC_ret (ls := []) TOK [] 0 false [] [.string (B (printL (xs.take i)))] [] ([]) rfl (by kernel_rfl) (by kernel_rfl) (fun w9 hx9 => ?_)
    show (.string (B (printL (xs.take i))) : Value) = .string (B (printL xs))
    rw [List.take_of_length_le (show xs.length ≤ i from by omega)]

end Go.YtmfkmoecbnghhaaDoor
