/- Contracts of functions, over the symbolic executor: each comes to what its theorem says. Written by gen.py, a program of this work. -/
import Derived.Test.YtmfkmoecbnghhaaDoorA16
namespace Go.YtmfkmoecbnghhaaDoor
open Go Eng Go.Proofs Law Go.RowKit
set_option linter.unusedVariables false
set_option linter.unusedSimpArgs false

theorem same_print {xs ys : List Sc} (hx : ∀ c ∈ xs, Wr c) (hy : ∀ c ∈ ys, Wr c) : (decide (xs = ys) == ((B (printL xs)).toList == (B (printL ys)).toList)) = true := by
  by_cases h : xs = ys
  · subst h; simp
  · have h2 : ((B (printL xs)).toList == (B (printL ys)).toList) = false := by
      cases hb : ((B (printL xs)).toList == (B (printL ys)).toList)
      · rfl
      · exact absurd (printL_inj hx hy (B_eq hb)) h
    rw [h2, decide_eq_false h]; rfl
theorem same_symm (xs ys : List Sc) : (decide (xs = ys) == decide (ys = xs)) = true := by
  by_cases h : xs = ys
  · subst h; simp
  · rw [decide_eq_false h, decide_eq_false (fun e => h e.symm)]; rfl
theorem more_ne (xs : List Sc) : decide (xs ++ [⟨0, 0, 0⟩] = xs) = false := decide_eq_false fun e => by
  have := congrArg List.length e
  simp at this
theorem seq_true {a b : List UInt8} (h : a = b) : ((B a).toList == (B b).toList) = true := by subst h; simp

theorem f3 (x y : Sl) (xs ys : List Sc) (l : List UInt8) (S : Nat → Prop) (w : World) (hP : Pre S w []) (hG : Glob S w) (hx : RSl scE S w x xs) (hy : RSl scE S w y ys) :
    Calls Tryd.prog 3 #[.slice x.a x.n x.c, .slice y.a y.n y.c, .string (B l)] w (Ret S w [] fun v_ ls_ S_ w_ => v_ = .bool true) := by
  have hxn := hx.n
  have hyn := hy.n
  refine Calls_of_VC (ls := []) ⟨[(0, .slice x.a x.n x.c), (1, .slice y.a y.n y.c), (2, .string (B l))], []⟩ Tryd.func3 rfl (by kernel_rfl) (by kernel_rfl) hP ?_
  refine VC_go (hs := [0]) TOK [0, 1, 2, 6] ⟨[(0, .slice x.a x.n x.c), (1, .slice y.a y.n y.c), (2, .string (B l)), (6, .bool false)], []⟩ [] (by kernel_rfl) (by kernel_rfl) ?_
  refine VC_seq ?_
  refine VC_region 2 rfl ?_
  refine RV_call (c := 1) (f := 8) (vs := []) (dst := (some 14)) (by kernel_rfl) E8 (fun wa hxe hp => f8 _ wa hp (hG.ext hxe)) ?_
  rintro S1 w2 v3 _ hx4 rfl
  have hG := hG.ext hx4
  have hx := hx.ext hx4
  have hy := hy.ext hx4
  refine RV_go (hs := [0]) (c' := 0) (k' := 2) TOK [0, 1, 2, 6, 7] ⟨[(0, .slice x.a x.n x.c), (1, .slice y.a y.n y.c), (2, .string (B l)), (6, .bool false), (7, .bool true)], []⟩ [] (by kernel_rfl) (by kernel_rfl) ?_
  refine RV_end ?_
  refine KE_then ?_
  refine VC_seq ?_
  refine VC_seq ?_
  refine VC_region 13 rfl ?_
  refine RV_go (hs := [0, 0, 0, 0]) (c' := 9) (k' := 4) TOK [0, 1, 2, 6, 7, 18] ⟨[(0, .slice x.a x.n x.c), (1, .slice y.a y.n y.c), (2, .string (B l)), (6, .bool false), (7, .bool true), (18, .bool (decide ((x.n : Int) > 30)))], []⟩ [] (by kernel_rfl) (by kernel_rfl) ?_
  refine RV_case (decide ((x.n : Int) > 30)) (fun bb => ⟨[(0, .slice x.a x.n x.c), (1, .slice y.a y.n y.c), (2, .string (B l)), (6, .bool false), (7, .bool true), (18, .bool bb)], []⟩) (by kernel_rfl) (fun h5 => ?_) (fun h5 => ?_)
  · skip
    replace h5 := of_decide_eq_true h5
    refine RV_go (hs := [0, 0, 0, 0, 0, 0, 0, 0, 0]) (c' := 0) (k' := 13) TOK [0, 1, 2, 6, 7, 27] ⟨[(0, .slice x.a x.n x.c), (1, .slice y.a y.n y.c), (2, .string (B l)), (6, .bool false), (7, .bool true), (27, .bool true)], []⟩ [] (by kernel_rfl) (by kernel_rfl) ?_
    refine RV_end ?_
    refine KE_then ?_
    refine VC_true (by kernel_rfl) ?_
    refine VC_go (hs := [0, 0]) TOK [0, 1, 2, 6, 7] ⟨[(0, .slice x.a x.n x.c), (1, .slice y.a y.n y.c), (2, .string (B l)), (6, .bool true), (7, .bool true)], []⟩ [] (by kernel_rfl) (by kernel_rfl) ?_
    refine VC_ret (ls := []) TOK [] 0 false [] [.bool true] [] ([]) rfl (by kernel_rfl) (by kernel_rfl) (fun w9 hx9 => ?_)
    show (.bool true : Value) = .bool true
    rfl
  · skip
    replace h5 := of_decide_eq_false h5
    refine RV_go (hs := [0, 0, 0, 0, 0]) (c' := 4) (k' := 9) TOK [0, 1, 2, 6, 7, 23] ⟨[(0, .slice x.a x.n x.c), (1, .slice y.a y.n y.c), (2, .string (B l)), (6, .bool false), (7, .bool true), (23, .bool (decide ((y.n : Int) > 30)))], []⟩ [] (by kernel_rfl) (by kernel_rfl) ?_
    refine RV_case (decide ((y.n : Int) > 30)) (fun bb => ⟨[(0, .slice x.a x.n x.c), (1, .slice y.a y.n y.c), (2, .string (B l)), (6, .bool false), (7, .bool true), (23, .bool bb)], []⟩) (by kernel_rfl) (fun h6 => ?_) (fun h6 => ?_)
    · skip
      replace h6 := of_decide_eq_true h6
      refine RV_go (hs := [0, 0, 0, 0]) (c' := 0) (k' := 13) TOK [0, 1, 2, 6, 7, 27] ⟨[(0, .slice x.a x.n x.c), (1, .slice y.a y.n y.c), (2, .string (B l)), (6, .bool false), (7, .bool true), (27, .bool true)], []⟩ [] (by kernel_rfl) (by kernel_rfl) ?_
      refine RV_end ?_
      refine KE_then ?_
      refine VC_true (by kernel_rfl) ?_
      refine VC_go (hs := [0, 0]) TOK [0, 1, 2, 6, 7] ⟨[(0, .slice x.a x.n x.c), (1, .slice y.a y.n y.c), (2, .string (B l)), (6, .bool true), (7, .bool true)], []⟩ [] (by kernel_rfl) (by kernel_rfl) ?_
      refine VC_ret (ls := []) TOK [] 0 false [] [.bool true] [] ([]) rfl (by kernel_rfl) (by kernel_rfl) (fun w9 hx9 => ?_)
      show (.bool true : Value) = .bool true
      rfl
    · skip
      replace h6 := of_decide_eq_false h6
      refine RV_go (hs := [0, 0, 0, 0]) (c' := 0) (k' := 13) TOK [0, 1, 2, 6, 7, 27] ⟨[(0, .slice x.a x.n x.c), (1, .slice y.a y.n y.c), (2, .string (B l)), (6, .bool false), (7, .bool true), (27, .bool (decide ((l.length : Int) > 500)))], []⟩ [] (by kernel_rfl) (by kernel_rfl) ?_
      refine RV_end ?_
      refine KE_then ?_
      refine VC_cond (decide ((l.length : Int) > 500)) (by kernel_rfl) (fun h7 => ?_) (fun h7 => ?_)
      · skip
        replace h7 := of_decide_eq_true h7
        refine VC_go (hs := [0, 0]) TOK [0, 1, 2, 6, 7] ⟨[(0, .slice x.a x.n x.c), (1, .slice y.a y.n y.c), (2, .string (B l)), (6, .bool true), (7, .bool true)], []⟩ [] (by kernel_rfl) (by kernel_rfl) ?_
        refine VC_ret (ls := []) TOK [] 0 false [] [.bool true] [] ([]) rfl (by kernel_rfl) (by kernel_rfl) (fun w9 hx9 => ?_)
        show (.bool true : Value) = .bool true
        rfl
      · skip
        replace h7 := of_decide_eq_false h7
        refine VC_skip ?_
        refine KE_then ?_
        refine VC_seq ?_
        refine VC_region 9 rfl ?_
        refine RV_go (hs := [0]) (c' := 8) (k' := 1) TOK [0, 1, 2, 6, 7, 30] ⟨[(0, .slice x.a x.n x.c), (1, .slice y.a y.n y.c), (2, .string (B l)), (6, .bool false), (7, .bool true), (30, .string (B l))], []⟩ [] (by kernel_rfl) (by kernel_rfl) ?_
        refine RV_call (c := 7) (f := 9) (vs := [.string (B l)]) (dst := (some 31)) (by kernel_rfl) E9 (fun wa hxe hp => c9 l _ wa hp (hG.ext hxe) (by first | decide | (simp only [List.length_append] <;> omega) | omega | (simp only [List.length_take]; omega))) ?_
        rintro S14 w15 v16 _ hx17 (⟨cs8, x9, hs10, rfl, hx11⟩ | ⟨cs8, r12, hs10, hr13, rfl⟩)
        · skip
          have hG := hG.ext hx17
          have hx := hx.ext hx17
          have hy := hy.ext hx17
          have hx11n := hx11.n
          have he_cs8 : printL cs8 = l := by rw [hs10.eq, List.append_nil]
          have hcl_cs8 := cs_le cs8
          have hel_cs8 := congrArg List.length he_cs8
          refine RV_go (hs := [0, 0, 0, 0, 0, 0, 0]) (c' := 0) (k' := 9) TOK [0, 1, 2, 6, 7, 8, 9, 10] ⟨[(0, .slice x.a x.n x.c), (1, .slice y.a y.n y.c), (2, .string (B l)), (6, .bool false), (7, .bool true), (8, .slice x9.a x9.n x9.c), (9, .int .i64 (l.length : Int)), (10, .int .i64 0)], []⟩ [] (by kernel_rfl) (by kernel_rfl) ?_
          refine RV_end ?_
          refine KE_then ?_
          refine VC_seq ?_
          refine VC_region 9 rfl ?_
          refine RV_go (hs := [0]) (c' := 8) (k' := 1) TOK [0, 1, 6, 7, 8, 9, 10, 36] ⟨[(0, .slice x.a x.n x.c), (1, .slice y.a y.n y.c), (6, .bool false), (7, .bool true), (8, .slice x9.a x9.n x9.c), (9, .int .i64 (l.length : Int)), (10, .int .i64 0), (36, .string (B l))], []⟩ [] (by kernel_rfl) (by kernel_rfl) ?_
          refine RV_call (c := 7) (f := 10) (vs := [.string (B l)]) (dst := (some 37)) (by kernel_rfl) E10 (fun wa hxe hp => c10 l _ wa hp (by first | decide | (simp only [List.length_append] <;> omega) | omega | (simp only [List.length_take]; omega))) ?_
          rintro S24 w25 v26 _ hx27 (⟨cs18, x19, hs20, rfl, hx21⟩ | ⟨cs18, r22, hs20, hr23, rfl⟩)
          · skip
            have hG := hG.ext hx27
            have hx := hx.ext hx27
            have hy := hy.ext hx27
            have hx11 := hx11.ext hx27
            obtain rfl := (Split.one hs10 hs20).1
            have hx21n := hx21.n
            refine RV_go (hs := [0, 0, 0, 0, 0, 0, 0]) (c' := 0) (k' := 9) TOK [0, 1, 6, 7, 8, 9, 10, 11, 12, 13] ⟨[(0, .slice x.a x.n x.c), (1, .slice y.a y.n y.c), (6, .bool false), (7, .bool true), (8, .slice x9.a x9.n x9.c), (9, .int .i64 (l.length : Int)), (10, .int .i64 0), (11, .slice x19.a x19.n x19.c), (12, .int .i64 (l.length : Int)), (13, .int .i64 0)], []⟩ [] (by kernel_rfl) (by kernel_rfl) ?_
            refine RV_end ?_
            refine KE_then ?_
            refine VC_seq ?_
            refine VC_seq ?_
            refine VC_region 23 rfl ?_
            refine RV_go (hs := [0, 0]) (c' := 21) (k' := 2) TOK [0, 1, 6, 7, 9, 10, 12, 13, 41, 42] ⟨[(0, .slice x.a x.n x.c), (1, .slice y.a y.n y.c), (6, .bool false), (7, .bool true), (9, .int .i64 (l.length : Int)), (10, .int .i64 0), (12, .int .i64 (l.length : Int)), (13, .int .i64 0), (41, .slice x9.a x9.n x9.c), (42, .slice x19.a x19.n x19.c)], []⟩ [] (by kernel_rfl) (by kernel_rfl) ?_
            refine RV_call (c := 20) (f := 11) (vs := [.slice x9.a x9.n x9.c, .slice x19.a x19.n x19.c]) (dst := (some 43)) (by kernel_rfl) E11 (fun wa hxe hp => f11 x9 x19 cs8 cs8 _ wa hp (hx11.ext hxe) (hx21.ext hxe) (by first | omega | decide | (simp only [List.length_append, List.length_cons, List.length_nil]; omega) | (simp only [List.length_take]; omega))) ?_
            rintro S28 w29 v30 _ hx31 rfl
            have hG := hG.ext hx31
            have hx := hx.ext hx31
            have hy := hy.ext hx31
            have hx11 := hx11.ext hx31
            have hx21 := hx21.ext hx31
            refine RV_go (hs := [0]) (c' := 19) (k' := 4) TOK [0, 1, 6, 7, 9, 10, 12, 13, 44] ⟨[(0, .slice x.a x.n x.c), (1, .slice y.a y.n y.c), (6, .bool false), (7, .bool true), (9, .int .i64 (l.length : Int)), (10, .int .i64 0), (12, .int .i64 (l.length : Int)), (13, .int .i64 0), (44, .bool (!(decide (cs8 = cs8))))], []⟩ [] (by kernel_rfl) (by kernel_rfl) ?_
            refine RV_st ⟨[(0, .slice x.a x.n x.c), (1, .slice y.a y.n y.c), (6, .bool false), (7, .bool true), (9, .int .i64 (l.length : Int)), (10, .int .i64 0), (12, .int .i64 (l.length : Int)), (13, .int .i64 0), (44, .bool false)], []⟩ (by rw [(show (!(decide (cs8 = cs8))) = false from by rw [show (decide (cs8 = cs8)) = true from by simp]; rfl)]) ?_
            refine RV_go (hs := [0, 0, 0, 0]) (c' := 15) (k' := 8) TOK [0, 1, 6, 7, 10, 13, 45, 48] ⟨[(0, .slice x.a x.n x.c), (1, .slice y.a y.n y.c), (6, .bool false), (7, .bool true), (10, .int .i64 0), (13, .int .i64 0), (45, .bool false), (48, .bool ((l.length : Int) != (l.length : Int)))], []⟩ [] (by kernel_rfl) (by kernel_rfl) ?_
            refine RV_st ⟨[(0, .slice x.a x.n x.c), (1, .slice y.a y.n y.c), (6, .bool false), (7, .bool true), (10, .int .i64 0), (13, .int .i64 0), (45, .bool false), (48, .bool false)], []⟩ (by rw [(show ((l.length : Int) != (l.length : Int)) = false from by simp)]) ?_
            refine RV_go (hs := [0, 0, 0, 0, 0]) (c' := 10) (k' := 13) TOK [0, 1, 6, 7, 50, 53] ⟨[(0, .slice x.a x.n x.c), (1, .slice y.a y.n y.c), (6, .bool false), (7, .bool true), (50, .bool false), (53, .bool (0 != 0))], []⟩ [] (by kernel_rfl) (by kernel_rfl) ?_
            refine RV_st ⟨[(0, .slice x.a x.n x.c), (1, .slice y.a y.n y.c), (6, .bool false), (7, .bool true), (50, .bool false), (53, .bool false)], []⟩ (by rw [(show (0 != 0) = false from by decide)]) ?_
            refine RV_go (hs := [0, 0, 0, 0]) (c' := 6) (k' := 17) TOK [0, 1, 6, 7, 55, 56, 57] ⟨[(0, .slice x.a x.n x.c), (1, .slice y.a y.n y.c), (6, .bool false), (7, .bool true), (55, .bool false), (56, .slice x.a x.n x.c), (57, .slice y.a y.n y.c)], []⟩ [] (by kernel_rfl) (by kernel_rfl) ?_
            refine RV_call (c := 5) (f := 12) (vs := [.slice x.a x.n x.c, .slice y.a y.n y.c]) (dst := (some 58)) (by kernel_rfl) E12 (fun wa hxe hp => f12 x y xs ys _ wa hp (hx.ext hxe) (hy.ext hxe) (by first | omega | decide | (simp only [List.length_append, List.length_cons, List.length_nil]; omega) | (simp only [List.length_take]; omega))) ?_
            rintro S32 w33 v34 _ hx35 rfl
            have hG := hG.ext hx35
            have hx := hx.ext hx35
            have hy := hy.ext hx35
            have hx11 := hx11.ext hx35
            have hx21 := hx21.ext hx35
            refine RV_go (hs := [0, 0]) (c' := 3) (k' := 20) TOK [0, 6, 7, 55, 58, 59, 60] ⟨[(0, .slice x.a x.n x.c), (6, .bool false), (7, .bool true), (55, .bool false), (58, .bool (decide (xs = ys))), (59, .slice x.a x.n x.c), (60, .slice y.a y.n y.c)], []⟩ [] (by kernel_rfl) (by kernel_rfl) ?_
            refine RV_call (c := 2) (f := 11) (vs := [.slice x.a x.n x.c, .slice y.a y.n y.c]) (dst := (some 61)) (by kernel_rfl) E11 (fun wa hxe hp => f11 x y xs ys _ wa hp (hx.ext hxe) (hy.ext hxe) (by first | omega | decide | (simp only [List.length_append, List.length_cons, List.length_nil]; omega) | (simp only [List.length_take]; omega))) ?_
            rintro S36 w37 v38 _ hx39 rfl
            have hG := hG.ext hx39
            have hx := hx.ext hx39
            have hy := hy.ext hx39
            have hx11 := hx11.ext hx39
            have hx21 := hx21.ext hx39
            refine RV_go (hs := [0]) (c' := 1) (k' := 22) TOK [0, 6, 7, 55, 62] ⟨[(0, .slice x.a x.n x.c), (6, .bool false), (7, .bool true), (55, .bool false), (62, .bool (!((decide (xs = ys)) == (decide (xs = ys)))))], []⟩ [] (by kernel_rfl) (by kernel_rfl) ?_
            refine RV_st ⟨[(0, .slice x.a x.n x.c), (6, .bool false), (7, .bool true), (55, .bool false), (62, .bool false)], []⟩ (by rw [(show (!((decide (xs = ys)) == (decide (xs = ys)))) = false from by simp)]) ?_
            refine RV_go (hs := [0]) (c' := 0) (k' := 23) TOK [0, 6, 7, 63] ⟨[(0, .slice x.a x.n x.c), (6, .bool false), (7, .bool true), (63, .bool false)], []⟩ [] (by kernel_rfl) (by kernel_rfl) ?_
            refine RV_end ?_
            refine KE_then ?_
            refine VC_false (by kernel_rfl) ?_
            refine VC_skip ?_
            refine KE_then ?_
            refine VC_seq ?_
            refine VC_region 14 rfl ?_
            refine RV_go (hs := [0, 0, 0]) (c' := 11) (k' := 3) TOK [0, 6, 65, 66] ⟨[(0, .slice x.a x.n x.c), (6, .bool false), (65, .bool true), (66, .slice x.a x.n x.c)], []⟩ [] (by kernel_rfl) (by kernel_rfl) ?_
            refine RV_call (c := 10) (f := 13) (vs := [.slice x.a x.n x.c]) (dst := (some 67)) (by kernel_rfl) E13 (fun wa hxe hp => f13 x xs _ wa hp (hx.ext hxe) (by omega)) ?_
            rintro S40 w41 v42 _ hx43 rfl
            have hG := hG.ext hx43
            have hx := hx.ext hx43
            have hy := hy.ext hx43
            have hx11 := hx11.ext hx43
            have hx21 := hx21.ext hx43
            refine RV_go (hs := [0, 0]) (c' := 8) (k' := 6) TOK [0, 6, 65, 69] ⟨[(0, .slice x.a x.n x.c), (6, .bool false), (65, .bool true), (69, .bool (!(decide (∀ c ∈ xs, Wr c))))], []⟩ [] (by kernel_rfl) (by kernel_rfl) ?_
            refine RV_case (!(decide (∀ c ∈ xs, Wr c))) (fun bb => ⟨[(0, .slice x.a x.n x.c), (6, .bool false), (65, .bool true), (69, .bool bb)], []⟩) (by kernel_rfl) (fun h44 => ?_) (fun h44 => ?_)
            · skip
              have h44 : (decide (∀ c ∈ xs, Wr c)) = false := by simpa using h44
              refine RV_go (hs := [0, 0, 0, 0, 0, 0, 0, 0]) (c' := 0) (k' := 14) TOK [6] ⟨[(6, .bool true)], []⟩ [] (by kernel_rfl) (by kernel_rfl) ?_
              refine RV_end ?_
              refine KE_then ?_
              refine VC_ret (ls := []) TOK [] 0 false [] [.bool true] [] ([]) rfl (by kernel_rfl) (by kernel_rfl) (fun w9 hx9 => ?_)
              show (.bool true : Value) = .bool true
              rfl
            · skip
              have h44 : (decide (∀ c ∈ xs, Wr c)) = true := by simpa using h44
              have hw_xs := of_decide_eq_true h44
              have hpl_xs := print_len hw_xs
              refine RV_go (hs := [0]) (c' := 7) (k' := 7) TOK [0, 6, 65, 69, 70] ⟨[(0, .slice x.a x.n x.c), (6, .bool false), (65, .bool true), (69, .bool false), (70, .slice x.a x.n x.c)], []⟩ [] (by kernel_rfl) (by kernel_rfl) ?_
              refine RV_call (c := 6) (f := 14) (vs := [.slice x.a x.n x.c]) (dst := (some 71)) (by kernel_rfl) E14 (fun wa hxe hp => f14 x xs _ wa hp (hG.ext hxe) (hx.ext hxe) hw_xs (by first | omega | decide | (simp only [List.length_append]; omega))) ?_
              rintro S45 w46 v47 _ hx48 rfl
              have hG := hG.ext hx48
              have hx := hx.ext hx48
              have hy := hy.ext hx48
              have hx11 := hx11.ext hx48
              have hx21 := hx21.ext hx48
              refine RV_go (hs := [0]) (c' := 5) (k' := 9) TOK [6, 65, 69, 71, 72] ⟨[(6, .bool false), (65, .bool true), (69, .bool false), (71, .string (B (printL xs))), (72, .slice x.a x.n x.c)], []⟩ [] (by kernel_rfl) (by kernel_rfl) ?_
              refine RV_call (c := 4) (f := 15) (vs := [.slice x.a x.n x.c]) (dst := (some 73)) (by kernel_rfl) E15 (fun wa hxe hp => f15 x xs _ wa hp (hx.ext hxe) hw_xs (by first | omega | decide | (simp only [List.length_append]; omega))) ?_
              rintro S49 w50 v51 _ hx52 rfl
              have hG := hG.ext hx52
              have hx := hx.ext hx52
              have hy := hy.ext hx52
              have hx11 := hx11.ext hx52
              have hx21 := hx21.ext hx52
              refine RV_go (hs := [0]) (c' := 3) (k' := 11) TOK [6, 65, 69, 74] ⟨[(6, .bool false), (65, .bool true), (69, .bool false), (74, .bool ((B (printL xs)).toList == (B (printL xs)).toList))], []⟩ [] (by kernel_rfl) (by kernel_rfl) ?_
              refine RV_st ⟨[(6, .bool false), (65, .bool true), (69, .bool false), (74, .bool true)], []⟩ (by rw [(show ((B (printL xs)).toList == (B (printL xs)).toList) = true from by simp)]) ?_
              refine RV_go (hs := [0, 0, 0]) (c' := 0) (k' := 14) TOK [6] ⟨[(6, .bool true)], []⟩ [] (by kernel_rfl) (by kernel_rfl) ?_
              refine RV_end ?_
              refine KE_then ?_
              refine VC_ret (ls := []) TOK [] 0 false [] [.bool true] [] ([]) rfl (by kernel_rfl) (by kernel_rfl) (fun w9 hx9 => ?_)
              show (.bool true : Value) = .bool true
              rfl
          · skip
            have hG := hG.ext hx27
            have hx := hx.ext hx27
            have hy := hy.ext hx27
            have hx11 := hx11.ext hx27
            exact absurd (Split.one hs10 hs20).2.symm hr23
        · skip
          have hG := hG.ext hx17
          have hx := hx.ext hx17
          have hy := hy.ext hx17
          have hel_cs8 := congrArg List.length hs10.eq
          rw [List.length_append] at hel_cs8
          refine RV_go (hs := [0, 0, 0, 0, 0, 0, 0]) (c' := 0) (k' := 9) TOK [0, 1, 2, 6, 7, 8, 9, 10] ⟨[(0, .slice x.a x.n x.c), (1, .slice y.a y.n y.c), (2, .string (B l)), (6, .bool false), (7, .bool true), (8, .slice none 0 0), (9, .int .i64 ((printL cs8).length : Int)), (10, .int .i64 1)], []⟩ [] (by kernel_rfl) (by kernel_rfl) ?_
          refine RV_end ?_
          refine KE_then ?_
          refine VC_seq ?_
          refine VC_region 9 rfl ?_
          refine RV_go (hs := [0]) (c' := 8) (k' := 1) TOK [0, 1, 6, 7, 8, 9, 10, 36] ⟨[(0, .slice x.a x.n x.c), (1, .slice y.a y.n y.c), (6, .bool false), (7, .bool true), (8, .slice none 0 0), (9, .int .i64 ((printL cs8).length : Int)), (10, .int .i64 1), (36, .string (B l))], []⟩ [] (by kernel_rfl) (by kernel_rfl) ?_
          refine RV_call (c := 7) (f := 10) (vs := [.string (B l)]) (dst := (some 37)) (by kernel_rfl) E10 (fun wa hxe hp => c10 l _ wa hp (by first | decide | (simp only [List.length_append] <;> omega) | omega | (simp only [List.length_take]; omega))) ?_
          rintro S59 w60 v61 _ hx62 (⟨cs53, x54, hs55, rfl, hx56⟩ | ⟨cs53, r57, hs55, hr58, rfl⟩)
          · skip
            have hG := hG.ext hx62
            have hx := hx.ext hx62
            have hy := hy.ext hx62
            exact absurd (Split.one hs10 hs55).2 hr13
          · skip
            have hG := hG.ext hx62
            have hx := hx.ext hx62
            have hy := hy.ext hx62
            obtain rfl := (Split.one hs10 hs55).1
            refine RV_go (hs := [0, 0, 0, 0, 0, 0, 0]) (c' := 0) (k' := 9) TOK [0, 1, 6, 7, 8, 9, 10, 11, 12, 13] ⟨[(0, .slice x.a x.n x.c), (1, .slice y.a y.n y.c), (6, .bool false), (7, .bool true), (8, .slice none 0 0), (9, .int .i64 ((printL cs8).length : Int)), (10, .int .i64 1), (11, .slice none 0 0), (12, .int .i64 ((printL cs8).length : Int)), (13, .int .i64 1)], []⟩ [] (by kernel_rfl) (by kernel_rfl) ?_
            refine RV_end ?_
            refine KE_then ?_
            refine VC_seq ?_
            refine VC_seq ?_
            refine VC_region 23 rfl ?_
            refine RV_go (hs := [0, 0]) (c' := 21) (k' := 2) TOK [0, 1, 6, 7, 9, 10, 12, 13, 41, 42] ⟨[(0, .slice x.a x.n x.c), (1, .slice y.a y.n y.c), (6, .bool false), (7, .bool true), (9, .int .i64 ((printL cs8).length : Int)), (10, .int .i64 1), (12, .int .i64 ((printL cs8).length : Int)), (13, .int .i64 1), (41, .slice none 0 0), (42, .slice none 0 0)], []⟩ [] (by kernel_rfl) (by kernel_rfl) ?_
            refine RV_call (c := 20) (f := 11) (vs := [.slice none 0 0, .slice none 0 0]) (dst := (some 43)) (by kernel_rfl) E11 (fun wa hxe hp => f11 ⟨none, 0, 0⟩ ⟨none, 0, 0⟩ ([] : List Sc) ([] : List Sc) _ wa hp (RSl.nil scE _ _) (RSl.nil scE _ _) (by first | omega | decide | (simp only [List.length_append, List.length_cons, List.length_nil]; omega) | (simp only [List.length_take]; omega))) ?_
            rintro S63 w64 v65 _ hx66 rfl
            have hG := hG.ext hx66
            have hx := hx.ext hx66
            have hy := hy.ext hx66
            refine RV_go (hs := [0]) (c' := 19) (k' := 4) TOK [0, 1, 6, 7, 9, 10, 12, 13, 44] ⟨[(0, .slice x.a x.n x.c), (1, .slice y.a y.n y.c), (6, .bool false), (7, .bool true), (9, .int .i64 ((printL cs8).length : Int)), (10, .int .i64 1), (12, .int .i64 ((printL cs8).length : Int)), (13, .int .i64 1), (44, .bool (!(decide (([] : List Sc) = ([] : List Sc)))))], []⟩ [] (by kernel_rfl) (by kernel_rfl) ?_
            refine RV_st ⟨[(0, .slice x.a x.n x.c), (1, .slice y.a y.n y.c), (6, .bool false), (7, .bool true), (9, .int .i64 ((printL cs8).length : Int)), (10, .int .i64 1), (12, .int .i64 ((printL cs8).length : Int)), (13, .int .i64 1), (44, .bool false)], []⟩ (by rw [(show (!(decide (([] : List Sc) = ([] : List Sc)))) = false from by rw [show (decide (([] : List Sc) = ([] : List Sc))) = true from by simp]; rfl)]) ?_
            refine RV_go (hs := [0, 0, 0, 0]) (c' := 15) (k' := 8) TOK [0, 1, 6, 7, 10, 13, 45, 48] ⟨[(0, .slice x.a x.n x.c), (1, .slice y.a y.n y.c), (6, .bool false), (7, .bool true), (10, .int .i64 1), (13, .int .i64 1), (45, .bool false), (48, .bool (((printL cs8).length : Int) != ((printL cs8).length : Int)))], []⟩ [] (by kernel_rfl) (by kernel_rfl) ?_
            refine RV_st ⟨[(0, .slice x.a x.n x.c), (1, .slice y.a y.n y.c), (6, .bool false), (7, .bool true), (10, .int .i64 1), (13, .int .i64 1), (45, .bool false), (48, .bool false)], []⟩ (by rw [(show (((printL cs8).length : Int) != ((printL cs8).length : Int)) = false from by simp)]) ?_
            refine RV_go (hs := [0, 0, 0, 0, 0]) (c' := 10) (k' := 13) TOK [0, 1, 6, 7, 50, 53] ⟨[(0, .slice x.a x.n x.c), (1, .slice y.a y.n y.c), (6, .bool false), (7, .bool true), (50, .bool false), (53, .bool (1 != 1))], []⟩ [] (by kernel_rfl) (by kernel_rfl) ?_
            refine RV_st ⟨[(0, .slice x.a x.n x.c), (1, .slice y.a y.n y.c), (6, .bool false), (7, .bool true), (50, .bool false), (53, .bool false)], []⟩ (by rw [(show (1 != 1) = false from by decide)]) ?_
            refine RV_go (hs := [0, 0, 0, 0]) (c' := 6) (k' := 17) TOK [0, 1, 6, 7, 55, 56, 57] ⟨[(0, .slice x.a x.n x.c), (1, .slice y.a y.n y.c), (6, .bool false), (7, .bool true), (55, .bool false), (56, .slice x.a x.n x.c), (57, .slice y.a y.n y.c)], []⟩ [] (by kernel_rfl) (by kernel_rfl) ?_
            refine RV_call (c := 5) (f := 12) (vs := [.slice x.a x.n x.c, .slice y.a y.n y.c]) (dst := (some 58)) (by kernel_rfl) E12 (fun wa hxe hp => f12 x y xs ys _ wa hp (hx.ext hxe) (hy.ext hxe) (by first | omega | decide | (simp only [List.length_append, List.length_cons, List.length_nil]; omega) | (simp only [List.length_take]; omega))) ?_
            rintro S67 w68 v69 _ hx70 rfl
            have hG := hG.ext hx70
            have hx := hx.ext hx70
            have hy := hy.ext hx70
            refine RV_go (hs := [0, 0]) (c' := 3) (k' := 20) TOK [0, 6, 7, 55, 58, 59, 60] ⟨[(0, .slice x.a x.n x.c), (6, .bool false), (7, .bool true), (55, .bool false), (58, .bool (decide (xs = ys))), (59, .slice x.a x.n x.c), (60, .slice y.a y.n y.c)], []⟩ [] (by kernel_rfl) (by kernel_rfl) ?_
            refine RV_call (c := 2) (f := 11) (vs := [.slice x.a x.n x.c, .slice y.a y.n y.c]) (dst := (some 61)) (by kernel_rfl) E11 (fun wa hxe hp => f11 x y xs ys _ wa hp (hx.ext hxe) (hy.ext hxe) (by first | omega | decide | (simp only [List.length_append, List.length_cons, List.length_nil]; omega) | (simp only [List.length_take]; omega))) ?_
            rintro S71 w72 v73 _ hx74 rfl
            have hG := hG.ext hx74
            have hx := hx.ext hx74
            have hy := hy.ext hx74
            refine RV_go (hs := [0]) (c' := 1) (k' := 22) TOK [0, 6, 7, 55, 62] ⟨[(0, .slice x.a x.n x.c), (6, .bool false), (7, .bool true), (55, .bool false), (62, .bool (!((decide (xs = ys)) == (decide (xs = ys)))))], []⟩ [] (by kernel_rfl) (by kernel_rfl) ?_
            refine RV_st ⟨[(0, .slice x.a x.n x.c), (6, .bool false), (7, .bool true), (55, .bool false), (62, .bool false)], []⟩ (by rw [(show (!((decide (xs = ys)) == (decide (xs = ys)))) = false from by simp)]) ?_
            refine RV_go (hs := [0]) (c' := 0) (k' := 23) TOK [0, 6, 7, 63] ⟨[(0, .slice x.a x.n x.c), (6, .bool false), (7, .bool true), (63, .bool false)], []⟩ [] (by kernel_rfl) (by kernel_rfl) ?_
            refine RV_end ?_
            refine KE_then ?_
            refine VC_false (by kernel_rfl) ?_
            refine VC_skip ?_
            refine KE_then ?_
            refine VC_seq ?_
            refine VC_region 14 rfl ?_
            refine RV_go (hs := [0, 0, 0]) (c' := 11) (k' := 3) TOK [0, 6, 65, 66] ⟨[(0, .slice x.a x.n x.c), (6, .bool false), (65, .bool true), (66, .slice x.a x.n x.c)], []⟩ [] (by kernel_rfl) (by kernel_rfl) ?_
            refine RV_call (c := 10) (f := 13) (vs := [.slice x.a x.n x.c]) (dst := (some 67)) (by kernel_rfl) E13 (fun wa hxe hp => f13 x xs _ wa hp (hx.ext hxe) (by omega)) ?_
            rintro S75 w76 v77 _ hx78 rfl
            have hG := hG.ext hx78
            have hx := hx.ext hx78
            have hy := hy.ext hx78
            refine RV_go (hs := [0, 0]) (c' := 8) (k' := 6) TOK [0, 6, 65, 69] ⟨[(0, .slice x.a x.n x.c), (6, .bool false), (65, .bool true), (69, .bool (!(decide (∀ c ∈ xs, Wr c))))], []⟩ [] (by kernel_rfl) (by kernel_rfl) ?_
            refine RV_case (!(decide (∀ c ∈ xs, Wr c))) (fun bb => ⟨[(0, .slice x.a x.n x.c), (6, .bool false), (65, .bool true), (69, .bool bb)], []⟩) (by kernel_rfl) (fun h79 => ?_) (fun h79 => ?_)
            · skip
              have h79 : (decide (∀ c ∈ xs, Wr c)) = false := by simpa using h79
              refine RV_go (hs := [0, 0, 0, 0, 0, 0, 0, 0]) (c' := 0) (k' := 14) TOK [6] ⟨[(6, .bool true)], []⟩ [] (by kernel_rfl) (by kernel_rfl) ?_
              refine RV_end ?_
              refine KE_then ?_
              refine VC_ret (ls := []) TOK [] 0 false [] [.bool true] [] ([]) rfl (by kernel_rfl) (by kernel_rfl) (fun w9 hx9 => ?_)
              show (.bool true : Value) = .bool true
              rfl
            · skip
              have h79 : (decide (∀ c ∈ xs, Wr c)) = true := by simpa using h79
              have hw_xs := of_decide_eq_true h79
              have hpl_xs := print_len hw_xs
              refine RV_go (hs := [0]) (c' := 7) (k' := 7) TOK [0, 6, 65, 69, 70] ⟨[(0, .slice x.a x.n x.c), (6, .bool false), (65, .bool true), (69, .bool false), (70, .slice x.a x.n x.c)], []⟩ [] (by kernel_rfl) (by kernel_rfl) ?_
              refine RV_call (c := 6) (f := 14) (vs := [.slice x.a x.n x.c]) (dst := (some 71)) (by kernel_rfl) E14 (fun wa hxe hp => f14 x xs _ wa hp (hG.ext hxe) (hx.ext hxe) hw_xs (by first | omega | decide | (simp only [List.length_append]; omega))) ?_
              rintro S80 w81 v82 _ hx83 rfl
              have hG := hG.ext hx83
              have hx := hx.ext hx83
              have hy := hy.ext hx83
              refine RV_go (hs := [0]) (c' := 5) (k' := 9) TOK [6, 65, 69, 71, 72] ⟨[(6, .bool false), (65, .bool true), (69, .bool false), (71, .string (B (printL xs))), (72, .slice x.a x.n x.c)], []⟩ [] (by kernel_rfl) (by kernel_rfl) ?_
              refine RV_call (c := 4) (f := 15) (vs := [.slice x.a x.n x.c]) (dst := (some 73)) (by kernel_rfl) E15 (fun wa hxe hp => f15 x xs _ wa hp (hx.ext hxe) hw_xs (by first | omega | decide | (simp only [List.length_append]; omega))) ?_
              rintro S84 w85 v86 _ hx87 rfl
              have hG := hG.ext hx87
              have hx := hx.ext hx87
              have hy := hy.ext hx87
              refine RV_go (hs := [0]) (c' := 3) (k' := 11) TOK [6, 65, 69, 74] ⟨[(6, .bool false), (65, .bool true), (69, .bool false), (74, .bool ((B (printL xs)).toList == (B (printL xs)).toList))], []⟩ [] (by kernel_rfl) (by kernel_rfl) ?_
              refine RV_st ⟨[(6, .bool false), (65, .bool true), (69, .bool false), (74, .bool true)], []⟩ (by rw [(show ((B (printL xs)).toList == (B (printL xs)).toList) = true from by simp)]) ?_
              refine RV_go (hs := [0, 0, 0]) (c' := 0) (k' := 14) TOK [6] ⟨[(6, .bool true)], []⟩ [] (by kernel_rfl) (by kernel_rfl) ?_
              refine RV_end ?_
              refine KE_then ?_
              refine VC_ret (ls := []) TOK [] 0 false [] [.bool true] [] ([]) rfl (by kernel_rfl) (by kernel_rfl) (fun w9 hx9 => ?_)
              show (.bool true : Value) = .bool true
              rfl

theorem f4 (x y : Sl) (xs ys : List Sc) (l : List UInt8) (S : Nat → Prop) (w : World) (hP : Pre S w []) (hG : Glob S w) (hx : RSl scE S w x xs) (hy : RSl scE S w y ys) :
    Calls Tryd.prog 4 #[.slice x.a x.n x.c, .slice y.a y.n y.c, .string (B l)] w (Ret S w [] fun v_ ls_ S_ w_ => v_ = .bool true) := by
  have hxn := hx.n
  have hyn := hy.n
  refine Calls_of_VC (ls := []) ⟨[(0, .slice x.a x.n x.c), (1, .slice y.a y.n y.c), (2, .string (B l))], []⟩ Tryd.func4 rfl (by kernel_rfl) (by kernel_rfl) hP ?_
  refine VC_go (hs := [0]) TOK [0, 1, 2, 6] ⟨[(0, .slice x.a x.n x.c), (1, .slice y.a y.n y.c), (2, .string (B l)), (6, .bool false)], []⟩ [] (by kernel_rfl) (by kernel_rfl) ?_
  refine VC_seq ?_
  refine VC_region 2 rfl ?_
  refine RV_call (c := 1) (f := 8) (vs := []) (dst := (some 16)) (by kernel_rfl) E8 (fun wa hxe hp => f8 _ wa hp (hG.ext hxe)) ?_
  rintro S1 w2 v3 _ hx4 rfl
  have hG := hG.ext hx4
  have hx := hx.ext hx4
  have hy := hy.ext hx4
  refine RV_go (hs := [0]) (c' := 0) (k' := 2) TOK [0, 1, 2, 6, 7] ⟨[(0, .slice x.a x.n x.c), (1, .slice y.a y.n y.c), (2, .string (B l)), (6, .bool false), (7, .bool true)], []⟩ [] (by kernel_rfl) (by kernel_rfl) ?_
  refine RV_end ?_
  refine KE_then ?_
  refine VC_seq ?_
  refine VC_seq ?_
  refine VC_region 13 rfl ?_
  refine RV_go (hs := [0, 0, 0, 0]) (c' := 9) (k' := 4) TOK [0, 1, 2, 6, 7, 20] ⟨[(0, .slice x.a x.n x.c), (1, .slice y.a y.n y.c), (2, .string (B l)), (6, .bool false), (7, .bool true), (20, .bool (decide ((x.n : Int) > 30)))], []⟩ [] (by kernel_rfl) (by kernel_rfl) ?_
  refine RV_case (decide ((x.n : Int) > 30)) (fun bb => ⟨[(0, .slice x.a x.n x.c), (1, .slice y.a y.n y.c), (2, .string (B l)), (6, .bool false), (7, .bool true), (20, .bool bb)], []⟩) (by kernel_rfl) (fun h5 => ?_) (fun h5 => ?_)
  · skip
    replace h5 := of_decide_eq_true h5
    refine RV_go (hs := [0, 0, 0, 0, 0, 0, 0, 0, 0]) (c' := 0) (k' := 13) TOK [0, 1, 2, 6, 7, 29] ⟨[(0, .slice x.a x.n x.c), (1, .slice y.a y.n y.c), (2, .string (B l)), (6, .bool false), (7, .bool true), (29, .bool true)], []⟩ [] (by kernel_rfl) (by kernel_rfl) ?_
    refine RV_end ?_
    refine KE_then ?_
    refine VC_true (by kernel_rfl) ?_
    refine VC_go (hs := [0, 0]) TOK [0, 1, 2, 6, 7] ⟨[(0, .slice x.a x.n x.c), (1, .slice y.a y.n y.c), (2, .string (B l)), (6, .bool true), (7, .bool true)], []⟩ [] (by kernel_rfl) (by kernel_rfl) ?_
    refine VC_ret (ls := []) TOK [] 0 false [] [.bool true] [] ([]) rfl (by kernel_rfl) (by kernel_rfl) (fun w9 hx9 => ?_)
    show (.bool true : Value) = .bool true
    rfl
  · skip
    replace h5 := of_decide_eq_false h5
    refine RV_go (hs := [0, 0, 0, 0, 0]) (c' := 4) (k' := 9) TOK [0, 1, 2, 6, 7, 25] ⟨[(0, .slice x.a x.n x.c), (1, .slice y.a y.n y.c), (2, .string (B l)), (6, .bool false), (7, .bool true), (25, .bool (decide ((y.n : Int) > 30)))], []⟩ [] (by kernel_rfl) (by kernel_rfl) ?_
    refine RV_case (decide ((y.n : Int) > 30)) (fun bb => ⟨[(0, .slice x.a x.n x.c), (1, .slice y.a y.n y.c), (2, .string (B l)), (6, .bool false), (7, .bool true), (25, .bool bb)], []⟩) (by kernel_rfl) (fun h6 => ?_) (fun h6 => ?_)
    · skip
      replace h6 := of_decide_eq_true h6
      refine RV_go (hs := [0, 0, 0, 0]) (c' := 0) (k' := 13) TOK [0, 1, 2, 6, 7, 29] ⟨[(0, .slice x.a x.n x.c), (1, .slice y.a y.n y.c), (2, .string (B l)), (6, .bool false), (7, .bool true), (29, .bool true)], []⟩ [] (by kernel_rfl) (by kernel_rfl) ?_
      refine RV_end ?_
      refine KE_then ?_
      refine VC_true (by kernel_rfl) ?_
      refine VC_go (hs := [0, 0]) TOK [0, 1, 2, 6, 7] ⟨[(0, .slice x.a x.n x.c), (1, .slice y.a y.n y.c), (2, .string (B l)), (6, .bool true), (7, .bool true)], []⟩ [] (by kernel_rfl) (by kernel_rfl) ?_
      refine VC_ret (ls := []) TOK [] 0 false [] [.bool true] [] ([]) rfl (by kernel_rfl) (by kernel_rfl) (fun w9 hx9 => ?_)
      show (.bool true : Value) = .bool true
      rfl
    · skip
      replace h6 := of_decide_eq_false h6
      refine RV_go (hs := [0, 0, 0, 0]) (c' := 0) (k' := 13) TOK [0, 1, 2, 6, 7, 29] ⟨[(0, .slice x.a x.n x.c), (1, .slice y.a y.n y.c), (2, .string (B l)), (6, .bool false), (7, .bool true), (29, .bool (decide ((l.length : Int) > 500)))], []⟩ [] (by kernel_rfl) (by kernel_rfl) ?_
      refine RV_end ?_
      refine KE_then ?_
      refine VC_cond (decide ((l.length : Int) > 500)) (by kernel_rfl) (fun h7 => ?_) (fun h7 => ?_)
      · skip
        replace h7 := of_decide_eq_true h7
        refine VC_go (hs := [0, 0]) TOK [0, 1, 2, 6, 7] ⟨[(0, .slice x.a x.n x.c), (1, .slice y.a y.n y.c), (2, .string (B l)), (6, .bool true), (7, .bool true)], []⟩ [] (by kernel_rfl) (by kernel_rfl) ?_
        refine VC_ret (ls := []) TOK [] 0 false [] [.bool true] [] ([]) rfl (by kernel_rfl) (by kernel_rfl) (fun w9 hx9 => ?_)
        show (.bool true : Value) = .bool true
        rfl
      · skip
        replace h7 := of_decide_eq_false h7
        refine VC_skip ?_
        refine KE_then ?_
        refine VC_seq ?_
        refine VC_region 9 rfl ?_
        refine RV_go (hs := [0]) (c' := 8) (k' := 1) TOK [0, 1, 2, 6, 7, 32] ⟨[(0, .slice x.a x.n x.c), (1, .slice y.a y.n y.c), (2, .string (B l)), (6, .bool false), (7, .bool true), (32, .string (B l))], []⟩ [] (by kernel_rfl) (by kernel_rfl) ?_
        refine RV_call (c := 7) (f := 9) (vs := [.string (B l)]) (dst := (some 33)) (by kernel_rfl) E9 (fun wa hxe hp => c9 l _ wa hp (hG.ext hxe) (by first | decide | (simp only [List.length_append] <;> omega) | omega | (simp only [List.length_take]; omega))) ?_
        rintro S14 w15 v16 _ hx17 (⟨cs8, x9, hs10, rfl, hx11⟩ | ⟨cs8, r12, hs10, hr13, rfl⟩)
        · skip
          have hG := hG.ext hx17
          have hx := hx.ext hx17
          have hy := hy.ext hx17
          have hx11n := hx11.n
          have he_cs8 : printL cs8 = l := by rw [hs10.eq, List.append_nil]
          have hcl_cs8 := cs_le cs8
          have hel_cs8 := congrArg List.length he_cs8
          refine RV_go (hs := [0, 0, 0, 0, 0, 0, 0]) (c' := 0) (k' := 9) TOK [0, 1, 2, 6, 7, 8, 9, 10] ⟨[(0, .slice x.a x.n x.c), (1, .slice y.a y.n y.c), (2, .string (B l)), (6, .bool false), (7, .bool true), (8, .slice x9.a x9.n x9.c), (9, .int .i64 (l.length : Int)), (10, .int .i64 0)], []⟩ [] (by kernel_rfl) (by kernel_rfl) ?_
          refine RV_end ?_
          refine KE_then ?_
          refine VC_seq ?_
          refine VC_seq ?_
          refine VC_region 33 rfl ?_
          refine RV_go (hs := [0, 0]) (c' := 31) (k' := 2) TOK [0, 1, 2, 6, 7, 8, 9, 10, 38] ⟨[(0, .slice x.a x.n x.c), (1, .slice y.a y.n y.c), (2, .string (B l)), (6, .bool false), (7, .bool true), (8, .slice x9.a x9.n x9.c), (9, .int .i64 (l.length : Int)), (10, .int .i64 0), (38, .bool (0 == 0))], []⟩ [] (by kernel_rfl) (by kernel_rfl) ?_
          refine RV_st ⟨[(0, .slice x.a x.n x.c), (1, .slice y.a y.n y.c), (2, .string (B l)), (6, .bool false), (7, .bool true), (8, .slice x9.a x9.n x9.c), (9, .int .i64 (l.length : Int)), (10, .int .i64 0), (38, .bool true)], []⟩ (by rw [(show (0 == 0) = true from by decide)]) ?_
          refine RV_go (hs := [0, 0, 0, 0, 0]) (c' := 26) (k' := 7) TOK [0, 1, 2, 6, 7, 8, 9, 10, 39, 43] ⟨[(0, .slice x.a x.n x.c), (1, .slice y.a y.n y.c), (2, .string (B l)), (6, .bool false), (7, .bool true), (8, .slice x9.a x9.n x9.c), (9, .int .i64 (l.length : Int)), (10, .int .i64 0), (39, .bool true), (43, .bool ((l.length : Int) != (l.length : Int)))], []⟩ [] (by kernel_rfl) (by kernel_rfl) ?_
          refine RV_st ⟨[(0, .slice x.a x.n x.c), (1, .slice y.a y.n y.c), (2, .string (B l)), (6, .bool false), (7, .bool true), (8, .slice x9.a x9.n x9.c), (9, .int .i64 (l.length : Int)), (10, .int .i64 0), (39, .bool true), (43, .bool false)], []⟩ (by rw [(show ((l.length : Int) != (l.length : Int)) = false from by simp)]) ?_
          refine RV_go (hs := [0, 0]) (c' := 24) (k' := 9) TOK [0, 1, 2, 6, 7, 8, 9, 10, 39, 44, 45] ⟨[(0, .slice x.a x.n x.c), (1, .slice y.a y.n y.c), (2, .string (B l)), (6, .bool false), (7, .bool true), (8, .slice x9.a x9.n x9.c), (9, .int .i64 (l.length : Int)), (10, .int .i64 0), (39, .bool true), (44, .bool false), (45, .slice x9.a x9.n x9.c)], []⟩ [] (by kernel_rfl) (by kernel_rfl) ?_
          refine RV_call (c := 23) (f := 14) (vs := [.slice x9.a x9.n x9.c]) (dst := (some 46)) (by kernel_rfl) E14 (fun wa hxe hp => f14 x9 cs8 _ wa hp (hG.ext hxe) (hx11.ext hxe) hs10.wr (by first | omega | decide | (simp only [List.length_append]; omega))) ?_
          rintro S18 w19 v20 _ hx21 rfl
          have hG := hG.ext hx21
          have hx := hx.ext hx21
          have hy := hy.ext hx21
          have hx11 := hx11.ext hx21
          refine RV_go (hs := [0, 0]) (c' := 21) (k' := 12) TOK [0, 1, 2, 6, 7, 8, 9, 10, 39, 44, 48] ⟨[(0, .slice x.a x.n x.c), (1, .slice y.a y.n y.c), (2, .string (B l)), (6, .bool false), (7, .bool true), (8, .slice x9.a x9.n x9.c), (9, .int .i64 (l.length : Int)), (10, .int .i64 0), (39, .bool true), (44, .bool false), (48, .bool (!((B (printL cs8)).toList == (B l).toList)))], []⟩ [] (by kernel_rfl) (by kernel_rfl) ?_
          refine RV_st ⟨[(0, .slice x.a x.n x.c), (1, .slice y.a y.n y.c), (2, .string (B l)), (6, .bool false), (7, .bool true), (8, .slice x9.a x9.n x9.c), (9, .int .i64 (l.length : Int)), (10, .int .i64 0), (39, .bool true), (44, .bool false), (48, .bool false)], []⟩ (by rw [(show (!((B (printL cs8)).toList == (B l).toList)) = false from by first | (rw [seq_true (by assumption)]; rfl))]) ?_
          refine RV_go (hs := [0, 0, 0, 0, 0]) (c' := 16) (k' := 17) TOK [0, 1, 2, 6, 7, 8, 9, 51, 53] ⟨[(0, .slice x.a x.n x.c), (1, .slice y.a y.n y.c), (2, .string (B l)), (6, .bool false), (7, .bool true), (8, .slice x9.a x9.n x9.c), (9, .int .i64 (l.length : Int)), (51, .bool false), (53, .bool (0 != 0))], []⟩ [] (by kernel_rfl) (by kernel_rfl) ?_
          refine RV_st ⟨[(0, .slice x.a x.n x.c), (1, .slice y.a y.n y.c), (2, .string (B l)), (6, .bool false), (7, .bool true), (8, .slice x9.a x9.n x9.c), (9, .int .i64 (l.length : Int)), (51, .bool false), (53, .bool false)], []⟩ (by rw [(show (0 != 0) = false from by decide)]) ?_
          refine RV_go (hs := [0, 0, 0, 0, 0, 0, 0, 0, 0, 0, 0, 0, 0, 0, 0, 0]) (c' := 0) (k' := 33) TOK [0, 1, 6, 7, 69] ⟨[(0, .slice x.a x.n x.c), (1, .slice y.a y.n y.c), (6, .bool false), (7, .bool true), (69, .bool false)], []⟩ [] (by kernel_rfl) (by kernel_rfl) ?_
          refine RV_end ?_
          refine KE_then ?_
          refine VC_false (by kernel_rfl) ?_
          refine VC_skip ?_
          refine KE_then ?_
          refine VC_seq ?_
          refine VC_seq ?_
          refine VC_region 8 rfl ?_
          refine RV_go (hs := [0]) (c' := 7) (k' := 1) TOK [0, 1, 6, 7, 70] ⟨[(0, .slice x.a x.n x.c), (1, .slice y.a y.n y.c), (6, .bool false), (7, .bool true), (70, .slice x.a x.n x.c)], []⟩ [] (by kernel_rfl) (by kernel_rfl) ?_
          refine RV_call (c := 6) (f := 13) (vs := [.slice x.a x.n x.c]) (dst := (some 71)) (by kernel_rfl) E13 (fun wa hxe hp => f13 x xs _ wa hp (hx.ext hxe) (by omega)) ?_
          rintro S22 w23 v24 _ hx25 rfl
          have hG := hG.ext hx25
          have hx := hx.ext hx25
          have hy := hy.ext hx25
          have hx11 := hx11.ext hx25
          refine RV_go (hs := [0, 0]) (c' := 4) (k' := 4) TOK [0, 1, 6, 7, 73] ⟨[(0, .slice x.a x.n x.c), (1, .slice y.a y.n y.c), (6, .bool false), (7, .bool true), (73, .bool (!(decide (∀ c ∈ xs, Wr c))))], []⟩ [] (by kernel_rfl) (by kernel_rfl) ?_
          refine RV_case (!(decide (∀ c ∈ xs, Wr c))) (fun bb => ⟨[(0, .slice x.a x.n x.c), (1, .slice y.a y.n y.c), (6, .bool false), (7, .bool true), (73, .bool bb)], []⟩) (by kernel_rfl) (fun h26 => ?_) (fun h26 => ?_)
          · skip
            have h26 : (decide (∀ c ∈ xs, Wr c)) = false := by simpa using h26
            refine RV_go (hs := [0, 0, 0, 0]) (c' := 0) (k' := 8) TOK [0, 1, 6, 7, 77] ⟨[(0, .slice x.a x.n x.c), (1, .slice y.a y.n y.c), (6, .bool false), (7, .bool true), (77, .bool true)], []⟩ [] (by kernel_rfl) (by kernel_rfl) ?_
            refine RV_end ?_
            refine KE_then ?_
            refine VC_true (by kernel_rfl) ?_
            refine VC_go (hs := [0, 0]) TOK [0, 1, 6, 7] ⟨[(0, .slice x.a x.n x.c), (1, .slice y.a y.n y.c), (6, .bool true), (7, .bool true)], []⟩ [] (by kernel_rfl) (by kernel_rfl) ?_
            refine VC_ret (ls := []) TOK [] 0 false [] [.bool true] [] ([]) rfl (by kernel_rfl) (by kernel_rfl) (fun w9 hx9 => ?_)
            show (.bool true : Value) = .bool true
            rfl
          · skip
            have h26 : (decide (∀ c ∈ xs, Wr c)) = true := by simpa using h26
            have hw_xs := of_decide_eq_true h26
            have hpl_xs := print_len hw_xs
            refine RV_go (hs := [0]) (c' := 3) (k' := 5) TOK [0, 1, 6, 7, 73, 74] ⟨[(0, .slice x.a x.n x.c), (1, .slice y.a y.n y.c), (6, .bool false), (7, .bool true), (73, .bool false), (74, .slice y.a y.n y.c)], []⟩ [] (by kernel_rfl) (by kernel_rfl) ?_
            refine RV_call (c := 2) (f := 13) (vs := [.slice y.a y.n y.c]) (dst := (some 75)) (by kernel_rfl) E13 (fun wa hxe hp => f13 y ys _ wa hp (hy.ext hxe) (by omega)) ?_
            rintro S27 w28 v29 _ hx30 rfl
            have hG := hG.ext hx30
            have hx := hx.ext hx30
            have hy := hy.ext hx30
            have hx11 := hx11.ext hx30
            refine RV_go (hs := [0, 0]) (c' := 0) (k' := 8) TOK [0, 1, 6, 7, 77] ⟨[(0, .slice x.a x.n x.c), (1, .slice y.a y.n y.c), (6, .bool false), (7, .bool true), (77, .bool (!(decide (∀ c ∈ ys, Wr c))))], []⟩ [] (by kernel_rfl) (by kernel_rfl) ?_
            refine RV_end ?_
            refine KE_then ?_
            refine VC_cond (!(decide (∀ c ∈ ys, Wr c))) (by kernel_rfl) (fun h31 => ?_) (fun h31 => ?_)
            · skip
              have h31 : (decide (∀ c ∈ ys, Wr c)) = false := by simpa using h31
              refine VC_go (hs := [0, 0]) TOK [0, 1, 6, 7] ⟨[(0, .slice x.a x.n x.c), (1, .slice y.a y.n y.c), (6, .bool true), (7, .bool true)], []⟩ [] (by kernel_rfl) (by kernel_rfl) ?_
              refine VC_ret (ls := []) TOK [] 0 false [] [.bool true] [] ([]) rfl (by kernel_rfl) (by kernel_rfl) (fun w9 hx9 => ?_)
              show (.bool true : Value) = .bool true
              rfl
            · skip
              have h31 : (decide (∀ c ∈ ys, Wr c)) = true := by simpa using h31
              have hw_ys := of_decide_eq_true h31
              have hpl_ys := print_len hw_ys
              have hw_z : ∀ c ∈ xs ++ ys, Wr c := fun c h => (List.mem_append.1 h).elim (hw_xs c) (hw_ys c)
              refine VC_skip ?_
              refine KE_then ?_
              refine VC_seq ?_
              refine VC_region 3 rfl ?_
              refine RV_go (hs := [0]) (c' := 2) (k' := 1) TOK [0, 1, 6, 7, 79] ⟨[(0, .slice x.a x.n x.c), (1, .slice y.a y.n y.c), (6, .bool false), (7, .bool true), (79, .slice x.a x.n x.c)], []⟩ [] (by kernel_rfl) (by kernel_rfl) ?_
              refine RV_call (c := 1) (f := 14) (vs := [.slice x.a x.n x.c]) (dst := (some 80)) (by kernel_rfl) E14 (fun wa hxe hp => f14 x xs _ wa hp (hG.ext hxe) (hx.ext hxe) hw_xs (by first | omega | decide | (simp only [List.length_append]; omega))) ?_
              rintro S32 w33 v34 _ hx35 rfl
              have hG := hG.ext hx35
              have hx := hx.ext hx35
              have hy := hy.ext hx35
              have hx11 := hx11.ext hx35
              refine RV_go (hs := [0]) (c' := 0) (k' := 3) TOK [0, 1, 6, 7, 11] ⟨[(0, .slice x.a x.n x.c), (1, .slice y.a y.n y.c), (6, .bool false), (7, .bool true), (11, .string (B (printL xs)))], []⟩ [] (by kernel_rfl) (by kernel_rfl) ?_
              refine RV_end ?_
              refine KE_then ?_
              refine VC_seq ?_
              refine VC_region 9 rfl ?_
              refine RV_go (hs := [0]) (c' := 8) (k' := 1) TOK [0, 1, 6, 7, 11, 82] ⟨[(0, .slice x.a x.n x.c), (1, .slice y.a y.n y.c), (6, .bool false), (7, .bool true), (11, .string (B (printL xs))), (82, .string (B (printL xs)))], []⟩ [] (by kernel_rfl) (by kernel_rfl) ?_
              refine RV_call (c := 7) (f := 9) (vs := [.string (B (printL xs))]) (dst := (some 83)) (by kernel_rfl) E9 (fun wa hxe hp => c9 (printL xs) _ wa hp (hG.ext hxe) (by first | decide | (simp only [List.length_append] <;> omega) | omega | (simp only [List.length_take]; omega))) ?_
              rintro S42 w43 v44 _ hx45 (⟨cs36, x37, hs38, rfl, hx39⟩ | ⟨cs36, r40, hs38, hr41, rfl⟩)
              · skip
                have hG := hG.ext hx45
                have hx := hx.ext hx45
                have hy := hy.ext hx45
                have hx11 := hx11.ext hx45
                obtain rfl := (Split.one (Split.print hw_xs) hs38).1
                have hx39n := hx39.n
                refine RV_go (hs := [0, 0, 0, 0, 0, 0, 0]) (c' := 0) (k' := 9) TOK [0, 1, 6, 7, 11, 12, 13, 14] ⟨[(0, .slice x.a x.n x.c), (1, .slice y.a y.n y.c), (6, .bool false), (7, .bool true), (11, .string (B (printL xs))), (12, .slice x37.a x37.n x37.c), (13, .int .i64 ((printL xs).length : Int)), (14, .int .i64 0)], []⟩ [] (by kernel_rfl) (by kernel_rfl) ?_
                refine RV_end ?_
                refine KE_then ?_
                refine VC_seq ?_
                refine VC_region 7 rfl ?_
                refine RV_new (c := 6) TOK [0, 1, 6, 7, 11, 12, 13, 14, 87] (fun b46 => ⟨[(0, .slice x.a x.n x.c), (1, .slice y.a y.n y.c), (6, .bool false), (7, .bool true), (11, .string (B (printL xs))), (12, .slice x37.a x37.n x37.c), (13, .int .i64 ((printL xs).length : Int)), (14, .int .i64 0), (87, .slice (some ⟨b46, 0, none⟩) 0 0)], [⟨b46, 36, []⟩]⟩) (fun _ => by kernel_rfl) (fun b46 => ?_)
                refine RV_go (hs := [0]) (c' := 5) (k' := 2) TOK [0, 1, 6, 7, 11, 12, 13, 14, 87, 88] ⟨[(0, .slice x.a x.n x.c), (1, .slice y.a y.n y.c), (6, .bool false), (7, .bool true), (11, .string (B (printL xs))), (12, .slice x37.a x37.n x37.c), (13, .int .i64 ((printL xs).length : Int)), (14, .int .i64 0), (87, .slice (some ⟨b46, 0, none⟩) 0 0), (88, .slice x.a x.n x.c)], [⟨b46, 36, []⟩]⟩ [] (by kernel_rfl) (by kernel_rfl) ?_
                obtain ⟨news47, hl48, hr49, hc50, hs51⟩ := hx.cells
                refine RV_append1 (c := 4) (t := 22) (e := 36) (ti := ti36) (v := ⟨(some ⟨b46, 0, none⟩), 0, 0⟩) (x := ⟨x.a, x.n, x.c⟩) (dst := some 89) (by' := 24) (xs := []) (news := news47) TOK [] [⟨b46, 36, []⟩] (by kernel_rfl) rfl (by kernel_rfl) (by kernel_rfl) (RowOK.lit (e := 36) (size := 3) (g := b46) (n := 0) (xs := []) rfl (by decide)) (fun wa hI => hs51 hI.toExt) hc50 (by simp only [maxLen]; omega) (by dsimp only; omega) ?_
                intro ra52 rc53 tl54 hrow55
                refine RV_go (hs := [0]) (c' := 3) (k' := 4) TOK [0, 1, 6, 7, 11, 12, 13, 14, 89, 90] ⟨[(0, .slice x.a x.n x.c), (1, .slice y.a y.n y.c), (6, .bool false), (7, .bool true), (11, .string (B (printL xs))), (12, .slice x37.a x37.n x37.c), (13, .int .i64 ((printL xs).length : Int)), (14, .int .i64 0), (89, .slice ra52 (0 + x.n) rc53), (90, .slice y.a y.n y.c)], tl54⟩ [] (by kernel_rfl) (by kernel_rfl) ?_
                obtain ⟨news56, hl57, hr58, hc59, hs60⟩ := hy.cells
                refine RV_append1 (c := 2) (t := 22) (e := 36) (ti := ti36) (v := ⟨ra52, (0 + x.n), rc53⟩) (x := ⟨y.a, y.n, y.c⟩) (dst := some 91) (by' := 24) (xs := ([] ++ news47)) (news := news56) TOK [] tl54 (by kernel_rfl) rfl (by kernel_rfl) (by kernel_rfl) hrow55 (fun wa hI => hs60 hI.toExt) hc59 (by simp only [maxLen]; omega) (by dsimp only; omega) ?_
                intro ra61 rc62 tl63 hrow64
                refine RV_freeze1 [] tl63 rfl hrow64 (fun _ _ h => by simp [idsOf] at h) (fun S65 w66 hx67 hrsl68 => ?_)
                have hG := hG.ext hx67
                have hx := hx.ext hx67
                have hy := hy.ext hx67
                have hx11 := hx11.ext hx67
                have hx39 := hx39.ext hx67
                have hz69 : RSl scE S65 w66 ⟨ra61, ((0 + x.n) + y.n), rc62⟩ (xs ++ ys) := hrsl68 scE _ rfl (by rw [List.length_append]; dsimp only; omega) (by simpa using ((hr49.ext hx67).app hl48 (hr58.ext hx67)))
                refine RV_call (c := 1) (f := 14) (vs := [.slice ra61 ((0 + x.n) + y.n) rc62]) (dst := (some 92)) (by kernel_rfl) E14 (fun wa hxe hp => f14 ⟨ra61, ((0 + x.n) + y.n), rc62⟩ (xs ++ ys) _ wa hp (hG.ext hxe) (hz69.ext hxe) hw_z (by first | omega | decide | (simp only [List.length_append]; omega))) ?_
                rintro S70 w71 v72 _ hx73 rfl
                have hG := hG.ext hx73
                have hz69 := hz69.ext hx73
                have hx := hx.ext hx73
                have hy := hy.ext hx73
                have hx11 := hx11.ext hx73
                have hx39 := hx39.ext hx73
                refine RV_go (hs := [0]) (c' := 0) (k' := 7) TOK [0, 1, 6, 7, 11, 12, 13, 14, 15] ⟨[(0, .slice x.a x.n x.c), (1, .slice y.a y.n y.c), (6, .bool false), (7, .bool true), (11, .string (B (printL xs))), (12, .slice x37.a x37.n x37.c), (13, .int .i64 ((printL xs).length : Int)), (14, .int .i64 0), (15, .string (B (printL (xs ++ ys))))], []⟩ [] (by kernel_rfl) (by kernel_rfl) ?_
                refine RV_end ?_
                refine KE_then ?_
                refine VC_seq ?_
                refine VC_region 25 rfl ?_
                refine RV_go (hs := [0, 0, 0, 0]) (c' := 21) (k' := 4) TOK [0, 1, 6, 11, 12, 13, 15, 94, 96] ⟨[(0, .slice x.a x.n x.c), (1, .slice y.a y.n y.c), (6, .bool false), (11, .string (B (printL xs))), (12, .slice x37.a x37.n x37.c), (13, .int .i64 ((printL xs).length : Int)), (15, .string (B (printL (xs ++ ys)))), (94, .bool true), (96, .bool (0 == 0))], []⟩ [] (by kernel_rfl) (by kernel_rfl) ?_
                refine RV_st ⟨[(0, .slice x.a x.n x.c), (1, .slice y.a y.n y.c), (6, .bool false), (11, .string (B (printL xs))), (12, .slice x37.a x37.n x37.c), (13, .int .i64 ((printL xs).length : Int)), (15, .string (B (printL (xs ++ ys)))), (94, .bool true), (96, .bool true)], []⟩ (by rw [(show (0 == 0) = true from by decide)]) ?_
                refine RV_go (hs := [0, 0, 0, 0, 0, 0]) (c' := 15) (k' := 10) TOK [0, 1, 6, 11, 12, 15, 98, 102] ⟨[(0, .slice x.a x.n x.c), (1, .slice y.a y.n y.c), (6, .bool false), (11, .string (B (printL xs))), (12, .slice x37.a x37.n x37.c), (15, .string (B (printL (xs ++ ys)))), (98, .bool true), (102, .bool (((printL xs).length : Int) == ((printL xs).length : Int)))], []⟩ [] (by kernel_rfl) (by kernel_rfl) ?_
                refine RV_st ⟨[(0, .slice x.a x.n x.c), (1, .slice y.a y.n y.c), (6, .bool false), (11, .string (B (printL xs))), (12, .slice x37.a x37.n x37.c), (15, .string (B (printL (xs ++ ys)))), (98, .bool true), (102, .bool true)], []⟩ (by rw [(show (((printL xs).length : Int) == ((printL xs).length : Int)) = true from by simp)]) ?_
                refine RV_go (hs := [0, 0, 0, 0]) (c' := 11) (k' := 14) TOK [1, 6, 11, 15, 104, 105, 106] ⟨[(1, .slice y.a y.n y.c), (6, .bool false), (11, .string (B (printL xs))), (15, .string (B (printL (xs ++ ys)))), (104, .bool true), (105, .slice x37.a x37.n x37.c), (106, .slice x.a x.n x.c)], []⟩ [] (by kernel_rfl) (by kernel_rfl) ?_
                refine RV_call (c := 10) (f := 11) (vs := [.slice x37.a x37.n x37.c, .slice x.a x.n x.c]) (dst := (some 107)) (by kernel_rfl) E11 (fun wa hxe hp => f11 x37 x xs xs _ wa hp (hx39.ext hxe) (hx.ext hxe) (by first | omega | decide | (simp only [List.length_append, List.length_cons, List.length_nil]; omega) | (simp only [List.length_take]; omega))) ?_
                rintro S74 w75 v76 _ hx77 rfl
                have hG := hG.ext hx77
                have hz69 := hz69.ext hx77
                have hx := hx.ext hx77
                have hy := hy.ext hx77
                have hx11 := hx11.ext hx77
                have hx39 := hx39.ext hx77
                refine RV_go (hs := [0]) (c' := 9) (k' := 16) TOK [1, 6, 11, 15, 108] ⟨[(1, .slice y.a y.n y.c), (6, .bool false), (11, .string (B (printL xs))), (15, .string (B (printL (xs ++ ys)))), (108, .bool (decide (xs = xs)))], []⟩ [] (by kernel_rfl) (by kernel_rfl) ?_
                refine RV_st ⟨[(1, .slice y.a y.n y.c), (6, .bool false), (11, .string (B (printL xs))), (15, .string (B (printL (xs ++ ys)))), (108, .bool true)], []⟩ (by rw [(show (decide (xs = xs)) = true from by simp)]) ?_
                refine RV_go (hs := [0, 0, 0, 0]) (c' := 5) (k' := 20) TOK [6, 109, 110, 111, 112] ⟨[(6, .bool false), (109, .bool true), (110, .string (B (printL (xs ++ ys)))), (111, .string (B (printL xs))), (112, .slice y.a y.n y.c)], []⟩ [] (by kernel_rfl) (by kernel_rfl) ?_
                refine RV_call (c := 4) (f := 14) (vs := [.slice y.a y.n y.c]) (dst := (some 113)) (by kernel_rfl) E14 (fun wa hxe hp => f14 y ys _ wa hp (hG.ext hxe) (hy.ext hxe) hw_ys (by first | omega | decide | (simp only [List.length_append]; omega))) ?_
                rintro S78 w79 v80 _ hx81 rfl
                have hG := hG.ext hx81
                have hz69 := hz69.ext hx81
                have hx := hx.ext hx81
                have hy := hy.ext hx81
                have hx11 := hx11.ext hx81
                have hx39 := hx39.ext hx81
                refine RV_run (hs := [0]) (c' := 3) (k' := 22) TOK [] [6, 109, 110, 114] ⟨[(6, .bool false), (109, .bool true), (110, .string (B (printL (xs ++ ys)))), (114, .string (B (printL xs) ++ B (printL ys)))], []⟩ [] [.sz ((printL xs).length + (printL ys).length)] (by kernel_rfl) (by kernel_rfl) ROS_nil (by simp only [Conds, Cond.holds, and_true]; omega) ?_
                refine RV_st ⟨[(6, .bool false), (109, .bool true), (110, .string (B (printL (xs ++ ys)))), (114, .string (B ((printL xs) ++ (printL ys))))], []⟩ (by rw [B_app (printL xs) (printL ys)]) ?_
                refine RV_go (hs := [0]) (c' := 2) (k' := 23) TOK [6, 109, 115] ⟨[(6, .bool false), (109, .bool true), (115, .bool ((B (printL (xs ++ ys))).toList == (B ((printL xs) ++ (printL ys))).toList))], []⟩ [] (by kernel_rfl) (by kernel_rfl) ?_
                refine RV_st ⟨[(6, .bool false), (109, .bool true), (115, .bool true)], []⟩ (by rw [(show ((B (printL (xs ++ ys))).toList == (B ((printL xs) ++ (printL ys))).toList) = true from by exact seq_true (printL_app xs ys))]) ?_
                refine RV_go (hs := [0, 0]) (c' := 0) (k' := 25) TOK [6] ⟨[(6, .bool true)], []⟩ [] (by kernel_rfl) (by kernel_rfl) ?_
                refine RV_end ?_
                refine KE_then ?_
                refine VC_ret (ls := []) TOK [] 0 false [] [.bool true] [] ([]) rfl (by kernel_rfl) (by kernel_rfl) (fun w9 hx9 => ?_)
                show (.bool true : Value) = .bool true
                rfl
              · skip
                have hG := hG.ext hx45
                have hx := hx.ext hx45
                have hy := hy.ext hx45
                have hx11 := hx11.ext hx45
                exact absurd (Split.one (Split.print hw_xs) hs38).2.symm hr41
        · skip
          have hG := hG.ext hx17
          have hx := hx.ext hx17
          have hy := hy.ext hx17
          have hel_cs8 := congrArg List.length hs10.eq
          rw [List.length_append] at hel_cs8
          refine RV_go (hs := [0, 0, 0, 0, 0, 0, 0]) (c' := 0) (k' := 9) TOK [0, 1, 2, 6, 7, 8, 9, 10] ⟨[(0, .slice x.a x.n x.c), (1, .slice y.a y.n y.c), (2, .string (B l)), (6, .bool false), (7, .bool true), (8, .slice none 0 0), (9, .int .i64 ((printL cs8).length : Int)), (10, .int .i64 1)], []⟩ [] (by kernel_rfl) (by kernel_rfl) ?_
          refine RV_end ?_
          refine KE_then ?_
          refine VC_seq ?_
          refine VC_seq ?_
          refine VC_region 33 rfl ?_
          refine RV_go (hs := [0, 0]) (c' := 31) (k' := 2) TOK [0, 1, 2, 6, 7, 8, 9, 10, 38] ⟨[(0, .slice x.a x.n x.c), (1, .slice y.a y.n y.c), (2, .string (B l)), (6, .bool false), (7, .bool true), (8, .slice none 0 0), (9, .int .i64 ((printL cs8).length : Int)), (10, .int .i64 1), (38, .bool (1 == 0))], []⟩ [] (by kernel_rfl) (by kernel_rfl) ?_
          refine RV_st ⟨[(0, .slice x.a x.n x.c), (1, .slice y.a y.n y.c), (2, .string (B l)), (6, .bool false), (7, .bool true), (8, .slice none 0 0), (9, .int .i64 ((printL cs8).length : Int)), (10, .int .i64 1), (38, .bool false)], []⟩ (by rw [(show (1 == 0) = false from by decide)]) ?_
          refine RV_go (hs := [0, 0, 0, 0, 0, 0, 0, 0, 0, 0, 0, 0, 0, 0, 0]) (c' := 16) (k' := 17) TOK [0, 1, 2, 6, 7, 8, 9, 51, 53] ⟨[(0, .slice x.a x.n x.c), (1, .slice y.a y.n y.c), (2, .string (B l)), (6, .bool false), (7, .bool true), (8, .slice none 0 0), (9, .int .i64 ((printL cs8).length : Int)), (51, .bool false), (53, .bool (1 != 0))], []⟩ [] (by kernel_rfl) (by kernel_rfl) ?_
          refine RV_st ⟨[(0, .slice x.a x.n x.c), (1, .slice y.a y.n y.c), (2, .string (B l)), (6, .bool false), (7, .bool true), (8, .slice none 0 0), (9, .int .i64 ((printL cs8).length : Int)), (51, .bool false), (53, .bool true)], []⟩ (by rw [(show (1 != 0) = true from by decide)]) ?_
          refine RV_go (hs := [0, 0, 0, 0]) (c' := 12) (k' := 21) TOK [0, 1, 2, 6, 7, 9, 51, 54, 57] ⟨[(0, .slice x.a x.n x.c), (1, .slice y.a y.n y.c), (2, .string (B l)), (6, .bool false), (7, .bool true), (9, .int .i64 ((printL cs8).length : Int)), (51, .bool false), (54, .bool true), (57, .bool (decide (0 > 0)))], []⟩ [] (by kernel_rfl) (by kernel_rfl) ?_
          refine RV_st ⟨[(0, .slice x.a x.n x.c), (1, .slice y.a y.n y.c), (2, .string (B l)), (6, .bool false), (7, .bool true), (9, .int .i64 ((printL cs8).length : Int)), (51, .bool false), (54, .bool true), (57, .bool false)], []⟩ (by rw [(show (decide (0 > 0)) = false from by decide)]) ?_
          refine RV_go (hs := [0, 0, 0]) (c' := 9) (k' := 24) TOK [0, 1, 2, 6, 7, 9, 51, 54, 58, 60] ⟨[(0, .slice x.a x.n x.c), (1, .slice y.a y.n y.c), (2, .string (B l)), (6, .bool false), (7, .bool true), (9, .int .i64 ((printL cs8).length : Int)), (51, .bool false), (54, .bool true), (58, .bool false), (60, .bool (decide (((printL cs8).length : Int) < 0)))], []⟩ [] (by kernel_rfl) (by kernel_rfl) ?_
          refine RV_st ⟨[(0, .slice x.a x.n x.c), (1, .slice y.a y.n y.c), (2, .string (B l)), (6, .bool false), (7, .bool true), (9, .int .i64 ((printL cs8).length : Int)), (51, .bool false), (54, .bool true), (58, .bool false), (60, .bool false)], []⟩ (by rw [(show (decide (((printL cs8).length : Int) < 0)) = false from by exact decide_eq_false (by omega))]) ?_
          refine RV_go (hs := [0, 0, 0, 0, 0, 0]) (c' := 3) (k' := 30) TOK [0, 1, 6, 7, 51, 54, 62, 66] ⟨[(0, .slice x.a x.n x.c), (1, .slice y.a y.n y.c), (6, .bool false), (7, .bool true), (51, .bool false), (54, .bool true), (62, .bool false), (66, .bool (decide (((printL cs8).length : Int) > (l.length : Int))))], []⟩ [] (by kernel_rfl) (by kernel_rfl) ?_
          refine RV_st ⟨[(0, .slice x.a x.n x.c), (1, .slice y.a y.n y.c), (6, .bool false), (7, .bool true), (51, .bool false), (54, .bool true), (62, .bool false), (66, .bool false)], []⟩ (by rw [(show (decide (((printL cs8).length : Int) > (l.length : Int))) = false from by exact decide_eq_false (by omega))]) ?_
          refine RV_go (hs := [0, 0, 0]) (c' := 0) (k' := 33) TOK [0, 1, 6, 7, 69] ⟨[(0, .slice x.a x.n x.c), (1, .slice y.a y.n y.c), (6, .bool false), (7, .bool true), (69, .bool false)], []⟩ [] (by kernel_rfl) (by kernel_rfl) ?_
          refine RV_end ?_
          refine KE_then ?_
          refine VC_false (by kernel_rfl) ?_
          refine VC_skip ?_
          refine KE_then ?_
          refine VC_seq ?_
          refine VC_seq ?_
          refine VC_region 8 rfl ?_
          refine RV_go (hs := [0]) (c' := 7) (k' := 1) TOK [0, 1, 6, 7, 70] ⟨[(0, .slice x.a x.n x.c), (1, .slice y.a y.n y.c), (6, .bool false), (7, .bool true), (70, .slice x.a x.n x.c)], []⟩ [] (by kernel_rfl) (by kernel_rfl) ?_
          refine RV_call (c := 6) (f := 13) (vs := [.slice x.a x.n x.c]) (dst := (some 71)) (by kernel_rfl) E13 (fun wa hxe hp => f13 x xs _ wa hp (hx.ext hxe) (by omega)) ?_
          rintro S82 w83 v84 _ hx85 rfl
          have hG := hG.ext hx85
          have hx := hx.ext hx85
          have hy := hy.ext hx85
          refine RV_go (hs := [0, 0]) (c' := 4) (k' := 4) TOK [0, 1, 6, 7, 73] ⟨[(0, .slice x.a x.n x.c), (1, .slice y.a y.n y.c), (6, .bool false), (7, .bool true), (73, .bool (!(decide (∀ c ∈ xs, Wr c))))], []⟩ [] (by kernel_rfl) (by kernel_rfl) ?_
          refine RV_case (!(decide (∀ c ∈ xs, Wr c))) (fun bb => ⟨[(0, .slice x.a x.n x.c), (1, .slice y.a y.n y.c), (6, .bool false), (7, .bool true), (73, .bool bb)], []⟩) (by kernel_rfl) (fun h86 => ?_) (fun h86 => ?_)
          · skip
            have h86 : (decide (∀ c ∈ xs, Wr c)) = false := by simpa using h86
            refine RV_go (hs := [0, 0, 0, 0]) (c' := 0) (k' := 8) TOK [0, 1, 6, 7, 77] ⟨[(0, .slice x.a x.n x.c), (1, .slice y.a y.n y.c), (6, .bool false), (7, .bool true), (77, .bool true)], []⟩ [] (by kernel_rfl) (by kernel_rfl) ?_
            refine RV_end ?_
            refine KE_then ?_
            refine VC_true (by kernel_rfl) ?_
            refine VC_go (hs := [0, 0]) TOK [0, 1, 6, 7] ⟨[(0, .slice x.a x.n x.c), (1, .slice y.a y.n y.c), (6, .bool true), (7, .bool true)], []⟩ [] (by kernel_rfl) (by kernel_rfl) ?_
            refine VC_ret (ls := []) TOK [] 0 false [] [.bool true] [] ([]) rfl (by kernel_rfl) (by kernel_rfl) (fun w9 hx9 => ?_)
            show (.bool true : Value) = .bool true
            rfl
          · skip
            have h86 : (decide (∀ c ∈ xs, Wr c)) = true := by simpa using h86
            have hw_xs := of_decide_eq_true h86
            have hpl_xs := print_len hw_xs
            refine RV_go (hs := [0]) (c' := 3) (k' := 5) TOK [0, 1, 6, 7, 73, 74] ⟨[(0, .slice x.a x.n x.c), (1, .slice y.a y.n y.c), (6, .bool false), (7, .bool true), (73, .bool false), (74, .slice y.a y.n y.c)], []⟩ [] (by kernel_rfl) (by kernel_rfl) ?_
            refine RV_call (c := 2) (f := 13) (vs := [.slice y.a y.n y.c]) (dst := (some 75)) (by kernel_rfl) E13 (fun wa hxe hp => f13 y ys _ wa hp (hy.ext hxe) (by omega)) ?_
            rintro S87 w88 v89 _ hx90 rfl
            have hG := hG.ext hx90
            have hx := hx.ext hx90
            have hy := hy.ext hx90
            refine RV_go (hs := [0, 0]) (c' := 0) (k' := 8) TOK [0, 1, 6, 7, 77] ⟨[(0, .slice x.a x.n x.c), (1, .slice y.a y.n y.c), (6, .bool false), (7, .bool true), (77, .bool (!(decide (∀ c ∈ ys, Wr c))))], []⟩ [] (by kernel_rfl) (by kernel_rfl) ?_
            refine RV_end ?_
            refine KE_then ?_
            refine VC_cond (!(decide (∀ c ∈ ys, Wr c))) (by kernel_rfl) (fun h91 => ?_) (fun h91 => ?_)
            · skip
              have h91 : (decide (∀ c ∈ ys, Wr c)) = false := by simpa using h91
              refine VC_go (hs := [0, 0]) TOK [0, 1, 6, 7] ⟨[(0, .slice x.a x.n x.c), (1, .slice y.a y.n y.c), (6, .bool true), (7, .bool true)], []⟩ [] (by kernel_rfl) (by kernel_rfl) ?_
              refine VC_ret (ls := []) TOK [] 0 false [] [.bool true] [] ([]) rfl (by kernel_rfl) (by kernel_rfl) (fun w9 hx9 => ?_)
              show (.bool true : Value) = .bool true
              rfl
            · skip
              have h91 : (decide (∀ c ∈ ys, Wr c)) = true := by simpa using h91
              have hw_ys := of_decide_eq_true h91
              have hpl_ys := print_len hw_ys
              have hw_z : ∀ c ∈ xs ++ ys, Wr c := fun c h => (List.mem_append.1 h).elim (hw_xs c) (hw_ys c)
              refine VC_skip ?_
              refine KE_then ?_
              refine VC_seq ?_
              refine VC_region 3 rfl ?_
              refine RV_go (hs := [0]) (c' := 2) (k' := 1) TOK [0, 1, 6, 7, 79] ⟨[(0, .slice x.a x.n x.c), (1, .slice y.a y.n y.c), (6, .bool false), (7, .bool true), (79, .slice x.a x.n x.c)], []⟩ [] (by kernel_rfl) (by kernel_rfl) ?_
              refine RV_call (c := 1) (f := 14) (vs := [.slice x.a x.n x.c]) (dst := (some 80)) (by kernel_rfl) E14 (fun wa hxe hp => f14 x xs _ wa hp (hG.ext hxe) (hx.ext hxe) hw_xs (by first | omega | decide | (simp only [List.length_append]; omega))) ?_
              rintro S92 w93 v94 _ hx95 rfl
              have hG := hG.ext hx95
              have hx := hx.ext hx95
              have hy := hy.ext hx95
              refine RV_go (hs := [0]) (c' := 0) (k' := 3) TOK [0, 1, 6, 7, 11] ⟨[(0, .slice x.a x.n x.c), (1, .slice y.a y.n y.c), (6, .bool false), (7, .bool true), (11, .string (B (printL xs)))], []⟩ [] (by kernel_rfl) (by kernel_rfl) ?_
              refine RV_end ?_
              refine KE_then ?_
              refine VC_seq ?_
              refine VC_region 9 rfl ?_
              refine RV_go (hs := [0]) (c' := 8) (k' := 1) TOK [0, 1, 6, 7, 11, 82] ⟨[(0, .slice x.a x.n x.c), (1, .slice y.a y.n y.c), (6, .bool false), (7, .bool true), (11, .string (B (printL xs))), (82, .string (B (printL xs)))], []⟩ [] (by kernel_rfl) (by kernel_rfl) ?_
              refine RV_call (c := 7) (f := 9) (vs := [.string (B (printL xs))]) (dst := (some 83)) (by kernel_rfl) E9 (fun wa hxe hp => c9 (printL xs) _ wa hp (hG.ext hxe) (by first | decide | (simp only [List.length_append] <;> omega) | omega | (simp only [List.length_take]; omega))) ?_
              rintro S102 w103 v104 _ hx105 (⟨cs96, x97, hs98, rfl, hx99⟩ | ⟨cs96, r100, hs98, hr101, rfl⟩)
              · skip
                have hG := hG.ext hx105
                have hx := hx.ext hx105
                have hy := hy.ext hx105
                obtain rfl := (Split.one (Split.print hw_xs) hs98).1
                have hx99n := hx99.n
                refine RV_go (hs := [0, 0, 0, 0, 0, 0, 0]) (c' := 0) (k' := 9) TOK [0, 1, 6, 7, 11, 12, 13, 14] ⟨[(0, .slice x.a x.n x.c), (1, .slice y.a y.n y.c), (6, .bool false), (7, .bool true), (11, .string (B (printL xs))), (12, .slice x97.a x97.n x97.c), (13, .int .i64 ((printL xs).length : Int)), (14, .int .i64 0)], []⟩ [] (by kernel_rfl) (by kernel_rfl) ?_
                refine RV_end ?_
                refine KE_then ?_
                refine VC_seq ?_
                refine VC_region 7 rfl ?_
                refine RV_new (c := 6) TOK [0, 1, 6, 7, 11, 12, 13, 14, 87] (fun b106 => ⟨[(0, .slice x.a x.n x.c), (1, .slice y.a y.n y.c), (6, .bool false), (7, .bool true), (11, .string (B (printL xs))), (12, .slice x97.a x97.n x97.c), (13, .int .i64 ((printL xs).length : Int)), (14, .int .i64 0), (87, .slice (some ⟨b106, 0, none⟩) 0 0)], [⟨b106, 36, []⟩]⟩) (fun _ => by kernel_rfl) (fun b106 => ?_)
                refine RV_go (hs := [0]) (c' := 5) (k' := 2) TOK [0, 1, 6, 7, 11, 12, 13, 14, 87, 88] ⟨[(0, .slice x.a x.n x.c), (1, .slice y.a y.n y.c), (6, .bool false), (7, .bool true), (11, .string (B (printL xs))), (12, .slice x97.a x97.n x97.c), (13, .int .i64 ((printL xs).length : Int)), (14, .int .i64 0), (87, .slice (some ⟨b106, 0, none⟩) 0 0), (88, .slice x.a x.n x.c)], [⟨b106, 36, []⟩]⟩ [] (by kernel_rfl) (by kernel_rfl) ?_
                obtain ⟨news107, hl108, hr109, hc110, hs111⟩ := hx.cells
                refine RV_append1 (c := 4) (t := 22) (e := 36) (ti := ti36) (v := ⟨(some ⟨b106, 0, none⟩), 0, 0⟩) (x := ⟨x.a, x.n, x.c⟩) (dst := some 89) (by' := 24) (xs := []) (news := news107) TOK [] [⟨b106, 36, []⟩] (by kernel_rfl) rfl (by kernel_rfl) (by kernel_rfl) (RowOK.lit (e := 36) (size := 3) (g := b106) (n := 0) (xs := []) rfl (by decide)) (fun wa hI => hs111 hI.toExt) hc110 (by simp only [maxLen]; omega) (by dsimp only; omega) ?_
                intro ra112 rc113 tl114 hrow115
                refine RV_go (hs := [0]) (c' := 3) (k' := 4) TOK [0, 1, 6, 7, 11, 12, 13, 14, 89, 90] ⟨[(0, .slice x.a x.n x.c), (1, .slice y.a y.n y.c), (6, .bool false), (7, .bool true), (11, .string (B (printL xs))), (12, .slice x97.a x97.n x97.c), (13, .int .i64 ((printL xs).length : Int)), (14, .int .i64 0), (89, .slice ra112 (0 + x.n) rc113), (90, .slice y.a y.n y.c)], tl114⟩ [] (by kernel_rfl) (by kernel_rfl) ?_
                obtain ⟨news116, hl117, hr118, hc119, hs120⟩ := hy.cells
                refine RV_append1 (c := 2) (t := 22) (e := 36) (ti := ti36) (v := ⟨ra112, (0 + x.n), rc113⟩) (x := ⟨y.a, y.n, y.c⟩) (dst := some 91) (by' := 24) (xs := ([] ++ news107)) (news := news116) TOK [] tl114 (by kernel_rfl) rfl (by kernel_rfl) (by kernel_rfl) hrow115 (fun wa hI => hs120 hI.toExt) hc119 (by simp only [maxLen]; omega) (by dsimp only; omega) ?_
                intro ra121 rc122 tl123 hrow124
                refine RV_freeze1 [] tl123 rfl hrow124 (fun _ _ h => by simp [idsOf] at h) (fun S125 w126 hx127 hrsl128 => ?_)
                have hG := hG.ext hx127
                have hx := hx.ext hx127
                have hy := hy.ext hx127
                have hx99 := hx99.ext hx127
                have hz129 : RSl scE S125 w126 ⟨ra121, ((0 + x.n) + y.n), rc122⟩ (xs ++ ys) := hrsl128 scE _ rfl (by rw [List.length_append]; dsimp only; omega) (by simpa using ((hr109.ext hx127).app hl108 (hr118.ext hx127)))
                refine RV_call (c := 1) (f := 14) (vs := [.slice ra121 ((0 + x.n) + y.n) rc122]) (dst := (some 92)) (by kernel_rfl) E14 (fun wa hxe hp => f14 ⟨ra121, ((0 + x.n) + y.n), rc122⟩ (xs ++ ys) _ wa hp (hG.ext hxe) (hz129.ext hxe) hw_z (by first | omega | decide | (simp only [List.length_append]; omega))) ?_
                rintro S130 w131 v132 _ hx133 rfl
                have hG := hG.ext hx133
                have hz129 := hz129.ext hx133
                have hx := hx.ext hx133
                have hy := hy.ext hx133
                have hx99 := hx99.ext hx133
                refine RV_go (hs := [0]) (c' := 0) (k' := 7) TOK [0, 1, 6, 7, 11, 12, 13, 14, 15] ⟨[(0, .slice x.a x.n x.c), (1, .slice y.a y.n y.c), (6, .bool false), (7, .bool true), (11, .string (B (printL xs))), (12, .slice x97.a x97.n x97.c), (13, .int .i64 ((printL xs).length : Int)), (14, .int .i64 0), (15, .string (B (printL (xs ++ ys))))], []⟩ [] (by kernel_rfl) (by kernel_rfl) ?_
                refine RV_end ?_
                refine KE_then ?_
                refine VC_seq ?_
                refine VC_region 25 rfl ?_
                refine RV_go (hs := [0, 0, 0, 0]) (c' := 21) (k' := 4) TOK [0, 1, 6, 11, 12, 13, 15, 94, 96] ⟨[(0, .slice x.a x.n x.c), (1, .slice y.a y.n y.c), (6, .bool false), (11, .string (B (printL xs))), (12, .slice x97.a x97.n x97.c), (13, .int .i64 ((printL xs).length : Int)), (15, .string (B (printL (xs ++ ys)))), (94, .bool true), (96, .bool (0 == 0))], []⟩ [] (by kernel_rfl) (by kernel_rfl) ?_
                refine RV_st ⟨[(0, .slice x.a x.n x.c), (1, .slice y.a y.n y.c), (6, .bool false), (11, .string (B (printL xs))), (12, .slice x97.a x97.n x97.c), (13, .int .i64 ((printL xs).length : Int)), (15, .string (B (printL (xs ++ ys)))), (94, .bool true), (96, .bool true)], []⟩ (by rw [(show (0 == 0) = true from by decide)]) ?_
                refine RV_go (hs := [0, 0, 0, 0, 0, 0]) (c' := 15) (k' := 10) TOK [0, 1, 6, 11, 12, 15, 98, 102] ⟨[(0, .slice x.a x.n x.c), (1, .slice y.a y.n y.c), (6, .bool false), (11, .string (B (printL xs))), (12, .slice x97.a x97.n x97.c), (15, .string (B (printL (xs ++ ys)))), (98, .bool true), (102, .bool (((printL xs).length : Int) == ((printL xs).length : Int)))], []⟩ [] (by kernel_rfl) (by kernel_rfl) ?_
                refine RV_st ⟨[(0, .slice x.a x.n x.c), (1, .slice y.a y.n y.c), (6, .bool false), (11, .string (B (printL xs))), (12, .slice x97.a x97.n x97.c), (15, .string (B (printL (xs ++ ys)))), (98, .bool true), (102, .bool true)], []⟩ (by rw [(show (((printL xs).length : Int) == ((printL xs).length : Int)) = true from by simp)]) ?_
                refine RV_go (hs := [0, 0, 0, 0]) (c' := 11) (k' := 14) TOK [1, 6, 11, 15, 104, 105, 106] ⟨[(1, .slice y.a y.n y.c), (6, .bool false), (11, .string (B (printL xs))), (15, .string (B (printL (xs ++ ys)))), (104, .bool true), (105, .slice x97.a x97.n x97.c), (106, .slice x.a x.n x.c)], []⟩ [] (by kernel_rfl) (by kernel_rfl) ?_
                refine RV_call (c := 10) (f := 11) (vs := [.slice x97.a x97.n x97.c, .slice x.a x.n x.c]) (dst := (some 107)) (by kernel_rfl) E11 (fun wa hxe hp => f11 x97 x xs xs _ wa hp (hx99.ext hxe) (hx.ext hxe) (by first | omega | decide | (simp only [List.length_append, List.length_cons, List.length_nil]; omega) | (simp only [List.length_take]; omega))) ?_
                rintro S134 w135 v136 _ hx137 rfl
                have hG := hG.ext hx137
                have hz129 := hz129.ext hx137
                have hx := hx.ext hx137
                have hy := hy.ext hx137
                have hx99 := hx99.ext hx137
                refine RV_go (hs := [0]) (c' := 9) (k' := 16) TOK [1, 6, 11, 15, 108] ⟨[(1, .slice y.a y.n y.c), (6, .bool false), (11, .string (B (printL xs))), (15, .string (B (printL (xs ++ ys)))), (108, .bool (decide (xs = xs)))], []⟩ [] (by kernel_rfl) (by kernel_rfl) ?_
                refine RV_st ⟨[(1, .slice y.a y.n y.c), (6, .bool false), (11, .string (B (printL xs))), (15, .string (B (printL (xs ++ ys)))), (108, .bool true)], []⟩ (by rw [(show (decide (xs = xs)) = true from by simp)]) ?_
                refine RV_go (hs := [0, 0, 0, 0]) (c' := 5) (k' := 20) TOK [6, 109, 110, 111, 112] ⟨[(6, .bool false), (109, .bool true), (110, .string (B (printL (xs ++ ys)))), (111, .string (B (printL xs))), (112, .slice y.a y.n y.c)], []⟩ [] (by kernel_rfl) (by kernel_rfl) ?_
                refine RV_call (c := 4) (f := 14) (vs := [.slice y.a y.n y.c]) (dst := (some 113)) (by kernel_rfl) E14 (fun wa hxe hp => f14 y ys _ wa hp (hG.ext hxe) (hy.ext hxe) hw_ys (by first | omega | decide | (simp only [List.length_append]; omega))) ?_
                rintro S138 w139 v140 _ hx141 rfl
                have hG := hG.ext hx141
                have hz129 := hz129.ext hx141
                have hx := hx.ext hx141
                have hy := hy.ext hx141
                have hx99 := hx99.ext hx141
                refine RV_run (hs := [0]) (c' := 3) (k' := 22) TOK [] [6, 109, 110, 114] ⟨[(6, .bool false), (109, .bool true), (110, .string (B (printL (xs ++ ys)))), (114, .string (B (printL xs) ++ B (printL ys)))], []⟩ [] [.sz ((printL xs).length + (printL ys).length)] (by kernel_rfl) (by kernel_rfl) ROS_nil (by simp only [Conds, Cond.holds, and_true]; omega) ?_
                refine RV_st ⟨[(6, .bool false), (109, .bool true), (110, .string (B (printL (xs ++ ys)))), (114, .string (B ((printL xs) ++ (printL ys))))], []⟩ (by rw [B_app (printL xs) (printL ys)]) ?_
                refine RV_go (hs := [0]) (c' := 2) (k' := 23) TOK [6, 109, 115] ⟨[(6, .bool false), (109, .bool true), (115, .bool ((B (printL (xs ++ ys))).toList == (B ((printL xs) ++ (printL ys))).toList))], []⟩ [] (by kernel_rfl) (by kernel_rfl) ?_
                refine RV_st ⟨[(6, .bool false), (109, .bool true), (115, .bool true)], []⟩ (by rw [(show ((B (printL (xs ++ ys))).toList == (B ((printL xs) ++ (printL ys))).toList) = true from by exact seq_true (printL_app xs ys))]) ?_
                refine RV_go (hs := [0, 0]) (c' := 0) (k' := 25) TOK [6] ⟨[(6, .bool true)], []⟩ [] (by kernel_rfl) (by kernel_rfl) ?_
                refine RV_end ?_
                refine KE_then ?_
                refine VC_ret (ls := []) TOK [] 0 false [] [.bool true] [] ([]) rfl (by kernel_rfl) (by kernel_rfl) (fun w9 hx9 => ?_)
                show (.bool true : Value) = .bool true
                rfl
              · skip
                have hG := hG.ext hx105
                have hx := hx.ext hx105
                have hy := hy.ext hx105
                exact absurd (Split.one (Split.print hw_xs) hs98).2.symm hr101

theorem f5 (x : Sl) (xs : List Sc) (l : List UInt8) (S : Nat → Prop) (w : World) (hP : Pre S w []) (hG : Glob S w) (hx : RSl scE S w x xs) :
    Calls Tryd.prog 5 #[.slice x.a x.n x.c, .string (B l)] w (Ret S w [] fun v_ ls_ S_ w_ => v_ = .bool true) := by
  have hxn := hx.n
  refine Calls_of_VC (ls := []) ⟨[(0, .slice x.a x.n x.c), (1, .string (B l))], []⟩ Tryd.func5 rfl (by kernel_rfl) (by kernel_rfl) hP ?_
  refine VC_go (hs := [0]) TOK [0, 1, 4] ⟨[(0, .slice x.a x.n x.c), (1, .string (B l)), (4, .bool false)], []⟩ [] (by kernel_rfl) (by kernel_rfl) ?_
  refine VC_seq ?_
  refine VC_region 2 rfl ?_
  refine RV_call (c := 1) (f := 8) (vs := []) (dst := (some 13)) (by kernel_rfl) E8 (fun wa hxe hp => f8 _ wa hp (hG.ext hxe)) ?_
  rintro S1 w2 v3 _ hx4 rfl
  have hG := hG.ext hx4
  have hx := hx.ext hx4
  refine RV_go (hs := [0]) (c' := 0) (k' := 2) TOK [0, 1, 4, 5] ⟨[(0, .slice x.a x.n x.c), (1, .string (B l)), (4, .bool false), (5, .bool true)], []⟩ [] (by kernel_rfl) (by kernel_rfl) ?_
  refine RV_end ?_
  refine KE_then ?_
  refine VC_seq ?_
  refine VC_seq ?_
  refine VC_region 13 rfl ?_
  refine RV_go (hs := [0, 0, 0, 0]) (c' := 9) (k' := 4) TOK [0, 1, 4, 5, 17] ⟨[(0, .slice x.a x.n x.c), (1, .string (B l)), (4, .bool false), (5, .bool true), (17, .bool (decide ((x.n : Int) > 30)))], []⟩ [] (by kernel_rfl) (by kernel_rfl) ?_
  refine RV_case (decide ((x.n : Int) > 30)) (fun bb => ⟨[(0, .slice x.a x.n x.c), (1, .string (B l)), (4, .bool false), (5, .bool true), (17, .bool bb)], []⟩) (by kernel_rfl) (fun h5 => ?_) (fun h5 => ?_)
  · skip
    replace h5 := of_decide_eq_true h5
    refine RV_go (hs := [0, 0, 0, 0, 0, 0, 0, 0, 0]) (c' := 0) (k' := 13) TOK [0, 1, 4, 5, 26] ⟨[(0, .slice x.a x.n x.c), (1, .string (B l)), (4, .bool false), (5, .bool true), (26, .bool true)], []⟩ [] (by kernel_rfl) (by kernel_rfl) ?_
    refine RV_end ?_
    refine KE_then ?_
    refine VC_true (by kernel_rfl) ?_
    refine VC_go (hs := [0, 0]) TOK [0, 1, 4, 5] ⟨[(0, .slice x.a x.n x.c), (1, .string (B l)), (4, .bool true), (5, .bool true)], []⟩ [] (by kernel_rfl) (by kernel_rfl) ?_
    refine VC_ret (ls := []) TOK [] 0 false [] [.bool true] [] ([]) rfl (by kernel_rfl) (by kernel_rfl) (fun w9 hx9 => ?_)
    show (.bool true : Value) = .bool true
    rfl
  · skip
    replace h5 := of_decide_eq_false h5
    refine RV_go (hs := [0, 0, 0, 0, 0]) (c' := 4) (k' := 9) TOK [0, 1, 4, 5, 22] ⟨[(0, .slice x.a x.n x.c), (1, .string (B l)), (4, .bool false), (5, .bool true), (22, .bool (decide ((l.length : Int) > 300)))], []⟩ [] (by kernel_rfl) (by kernel_rfl) ?_
    refine RV_case (decide ((l.length : Int) > 300)) (fun bb => ⟨[(0, .slice x.a x.n x.c), (1, .string (B l)), (4, .bool false), (5, .bool true), (22, .bool bb)], []⟩) (by kernel_rfl) (fun h6 => ?_) (fun h6 => ?_)
    · skip
      replace h6 := of_decide_eq_true h6
      refine RV_go (hs := [0, 0, 0, 0]) (c' := 0) (k' := 13) TOK [0, 1, 4, 5, 26] ⟨[(0, .slice x.a x.n x.c), (1, .string (B l)), (4, .bool false), (5, .bool true), (26, .bool true)], []⟩ [] (by kernel_rfl) (by kernel_rfl) ?_
      refine RV_end ?_
      refine KE_then ?_
      refine VC_true (by kernel_rfl) ?_
      refine VC_go (hs := [0, 0]) TOK [0, 1, 4, 5] ⟨[(0, .slice x.a x.n x.c), (1, .string (B l)), (4, .bool true), (5, .bool true)], []⟩ [] (by kernel_rfl) (by kernel_rfl) ?_
      refine VC_ret (ls := []) TOK [] 0 false [] [.bool true] [] ([]) rfl (by kernel_rfl) (by kernel_rfl) (fun w9 hx9 => ?_)
      show (.bool true : Value) = .bool true
      rfl
    · skip
      replace h6 := of_decide_eq_false h6
      refine RV_go (hs := [0]) (c' := 3) (k' := 10) TOK [0, 1, 4, 5, 22, 23] ⟨[(0, .slice x.a x.n x.c), (1, .string (B l)), (4, .bool false), (5, .bool true), (22, .bool false), (23, .slice x.a x.n x.c)], []⟩ [] (by kernel_rfl) (by kernel_rfl) ?_
      refine RV_call (c := 2) (f := 13) (vs := [.slice x.a x.n x.c]) (dst := (some 24)) (by kernel_rfl) E13 (fun wa hxe hp => f13 x xs _ wa hp (hx.ext hxe) (by omega)) ?_
      rintro S7 w8 v9 _ hx10 rfl
      have hG := hG.ext hx10
      have hx := hx.ext hx10
      refine RV_go (hs := [0, 0]) (c' := 0) (k' := 13) TOK [0, 1, 4, 5, 26] ⟨[(0, .slice x.a x.n x.c), (1, .string (B l)), (4, .bool false), (5, .bool true), (26, .bool (!(decide (∀ c ∈ xs, Wr c))))], []⟩ [] (by kernel_rfl) (by kernel_rfl) ?_
      refine RV_end ?_
      refine KE_then ?_
      refine VC_cond (!(decide (∀ c ∈ xs, Wr c))) (by kernel_rfl) (fun h11 => ?_) (fun h11 => ?_)
      · skip
        have h11 : (decide (∀ c ∈ xs, Wr c)) = false := by simpa using h11
        refine VC_go (hs := [0, 0]) TOK [0, 1, 4, 5] ⟨[(0, .slice x.a x.n x.c), (1, .string (B l)), (4, .bool true), (5, .bool true)], []⟩ [] (by kernel_rfl) (by kernel_rfl) ?_
        refine VC_ret (ls := []) TOK [] 0 false [] [.bool true] [] ([]) rfl (by kernel_rfl) (by kernel_rfl) (fun w9 hx9 => ?_)
        show (.bool true : Value) = .bool true
        rfl
      · skip
        have h11 : (decide (∀ c ∈ xs, Wr c)) = true := by simpa using h11
        have hw_xs := of_decide_eq_true h11
        have hpl_xs := print_len hw_xs
        refine VC_skip ?_
        refine KE_then ?_
        refine VC_seq ?_
        refine VC_region 3 rfl ?_
        refine RV_go (hs := [0]) (c' := 2) (k' := 1) TOK [0, 1, 4, 5, 28] ⟨[(0, .slice x.a x.n x.c), (1, .string (B l)), (4, .bool false), (5, .bool true), (28, .slice x.a x.n x.c)], []⟩ [] (by kernel_rfl) (by kernel_rfl) ?_
        refine RV_call (c := 1) (f := 14) (vs := [.slice x.a x.n x.c]) (dst := (some 29)) (by kernel_rfl) E14 (fun wa hxe hp => f14 x xs _ wa hp (hG.ext hxe) (hx.ext hxe) hw_xs (by first | omega | decide | (simp only [List.length_append]; omega))) ?_
        rintro S12 w13 v14 _ hx15 rfl
        have hG := hG.ext hx15
        have hx := hx.ext hx15
        refine RV_go (hs := [0]) (c' := 0) (k' := 3) TOK [0, 1, 4, 5, 6] ⟨[(0, .slice x.a x.n x.c), (1, .string (B l)), (4, .bool false), (5, .bool true), (6, .string (B (printL xs)))], []⟩ [] (by kernel_rfl) (by kernel_rfl) ?_
        refine RV_end ?_
        refine KE_then ?_
        refine VC_seq ?_
        refine VC_region 9 rfl ?_
        refine RV_go (hs := [0]) (c' := 8) (k' := 1) TOK [0, 1, 4, 5, 6, 31] ⟨[(0, .slice x.a x.n x.c), (1, .string (B l)), (4, .bool false), (5, .bool true), (6, .string (B (printL xs))), (31, .string (B l))], []⟩ [] (by kernel_rfl) (by kernel_rfl) ?_
        refine RV_call (c := 7) (f := 9) (vs := [.string (B l)]) (dst := (some 32)) (by kernel_rfl) E9 (fun wa hxe hp => c9 l _ wa hp (hG.ext hxe) (by first | decide | (simp only [List.length_append] <;> omega) | omega | (simp only [List.length_take]; omega))) ?_
        rintro S22 w23 v24 _ hx25 (⟨cs16, x17, hs18, rfl, hx19⟩ | ⟨cs16, r20, hs18, hr21, rfl⟩)
        · skip
          have hG := hG.ext hx25
          have hx := hx.ext hx25
          have hx19n := hx19.n
          have he_cs16 : printL cs16 = l := by rw [hs18.eq, List.append_nil]
          have hcl_cs16 := cs_le cs16
          have hel_cs16 := congrArg List.length he_cs16
          refine RV_go (hs := [0, 0, 0, 0, 0, 0, 0]) (c' := 0) (k' := 9) TOK [0, 1, 4, 5, 6, 8, 9] ⟨[(0, .slice x.a x.n x.c), (1, .string (B l)), (4, .bool false), (5, .bool true), (6, .string (B (printL xs))), (8, .int .i64 (l.length : Int)), (9, .int .i64 0)], []⟩ [] (by kernel_rfl) (by kernel_rfl) ?_
          refine RV_end ?_
          refine KE_then ?_
          refine VC_seq ?_
          refine VC_region 11 rfl ?_
          refine RV_run (hs := [0, 0, 0]) (c' := 8) (k' := 3) TOK [] [0, 4, 5, 6, 8, 9, 39] ⟨[(0, .slice x.a x.n x.c), (4, .bool false), (5, .bool true), (6, .string (B (printL xs))), (8, .int .i64 (l.length : Int)), (9, .int .i64 0), (39, .string (B (printL xs) ++ B l))], []⟩ [] [.sz ((printL xs).length + l.length)] (by kernel_rfl) (by kernel_rfl) ROS_nil (by simp only [Conds, Cond.holds, and_true]; omega) ?_
          refine RV_st ⟨[(0, .slice x.a x.n x.c), (4, .bool false), (5, .bool true), (6, .string (B (printL xs))), (8, .int .i64 (l.length : Int)), (9, .int .i64 0), (39, .string (B ((printL xs) ++ l)))], []⟩ (by rw [B_app (printL xs) l]) ?_
          refine RV_call (c := 7) (f := 9) (vs := [.string (B ((printL xs) ++ l))]) (dst := (some 40)) (by kernel_rfl) E9 (fun wa hxe hp => c9 ((printL xs) ++ l) _ wa hp (hG.ext hxe) (by first | decide | (simp only [List.length_append] <;> omega) | omega | (simp only [List.length_take]; omega))) ?_
          rintro S32 w33 v34 _ hx35 (⟨cs26, x27, hs28, rfl, hx29⟩ | ⟨cs26, r30, hs28, hr31, rfl⟩)
          · skip
            have hG := hG.ext hx35
            have hx := hx.ext hx35
            have hx19 := hx19.ext hx35
            obtain rfl := (Split.one (hs18.app hw_xs) hs28).1
            have hx29n := hx29.n
            refine RV_go (hs := [0, 0, 0, 0, 0, 0, 0]) (c' := 0) (k' := 11) TOK [0, 4, 5, 6, 8, 9, 10, 11, 12] ⟨[(0, .slice x.a x.n x.c), (4, .bool false), (5, .bool true), (6, .string (B (printL xs))), (8, .int .i64 (l.length : Int)), (9, .int .i64 0), (10, .slice x27.a x27.n x27.c), (11, .int .i64 (((printL xs) ++ l).length : Int)), (12, .int .i64 0)], []⟩ [] (by kernel_rfl) (by kernel_rfl) ?_
            refine RV_end ?_
            refine KE_then ?_
            refine VC_seq ?_
            refine VC_region 26 rfl ?_
            refine RV_go (hs := [0, 0, 0, 0, 0]) (c' := 21) (k' := 5) TOK [0, 4, 6, 8, 9, 10, 11, 45, 48] ⟨[(0, .slice x.a x.n x.c), (4, .bool false), (6, .string (B (printL xs))), (8, .int .i64 (l.length : Int)), (9, .int .i64 0), (10, .slice x27.a x27.n x27.c), (11, .int .i64 (((printL xs) ++ l).length : Int)), (45, .bool true), (48, .bool (0 == 0))], []⟩ [] (by kernel_rfl) (by kernel_rfl) ?_
            refine RV_st ⟨[(0, .slice x.a x.n x.c), (4, .bool false), (6, .string (B (printL xs))), (8, .int .i64 (l.length : Int)), (9, .int .i64 0), (10, .slice x27.a x27.n x27.c), (11, .int .i64 (((printL xs) ++ l).length : Int)), (45, .bool true), (48, .bool true)], []⟩ (by rw [(show (0 == 0) = true from by decide)]) ?_
            refine RV_go (hs := [0, 0, 0, 0, 0, 0, 0]) (c' := 14) (k' := 12) TOK [0, 4, 9, 10, 50, 51, 55] ⟨[(0, .slice x.a x.n x.c), (4, .bool false), (9, .int .i64 0), (10, .slice x27.a x27.n x27.c), (50, .bool true), (51, .int .i64 (((printL xs) ++ l).length : Int)), (55, .int .i64 (IntKind.i64.wrap (((printL xs).length : Int) + (l.length : Int))))], []⟩ [] (by kernel_rfl) (by kernel_rfl) ?_
            refine RV_st ⟨[(0, .slice x.a x.n x.c), (4, .bool false), (9, .int .i64 0), (10, .slice x27.a x27.n x27.c), (50, .bool true), (51, .int .i64 (((printL xs) ++ l).length : Int)), (55, .int .i64 (((printL xs).length : Int) + (l.length : Int)))], []⟩ (by rw [wrap_id (x := ((printL xs).length : Int) + (l.length : Int)) (by unfold InR; first | omega | (simp only [List.length_append] <;> omega))]) ?_
            refine RV_go (hs := [0]) (c' := 13) (k' := 13) TOK [0, 4, 9, 10, 50, 56] ⟨[(0, .slice x.a x.n x.c), (4, .bool false), (9, .int .i64 0), (10, .slice x27.a x27.n x27.c), (50, .bool true), (56, .bool ((((printL xs) ++ l).length : Int) == (((printL xs).length : Int) + (l.length : Int))))], []⟩ [] (by kernel_rfl) (by kernel_rfl) ?_
            refine RV_st ⟨[(0, .slice x.a x.n x.c), (4, .bool false), (9, .int .i64 0), (10, .slice x27.a x27.n x27.c), (50, .bool true), (56, .bool true)], []⟩ (by rw [(show ((((printL xs) ++ l).length : Int) == (((printL xs).length : Int) + (l.length : Int))) = true from by rw [beq_iff_eq]; simp only [printL_app, List.length_append]; omega)]) ?_
            refine RV_go (hs := [0, 0, 0, 0]) (c' := 9) (k' := 17) TOK [0, 4, 10, 58, 60] ⟨[(0, .slice x.a x.n x.c), (4, .bool false), (10, .slice x27.a x27.n x27.c), (58, .bool true), (60, .bool (0 != 0))], []⟩ [] (by kernel_rfl) (by kernel_rfl) ?_
            refine RV_st ⟨[(0, .slice x.a x.n x.c), (4, .bool false), (10, .slice x27.a x27.n x27.c), (58, .bool true), (60, .bool false)], []⟩ (by rw [(show (0 != 0) = false from by decide)]) ?_
            refine RV_go (hs := [0, 0, 0, 0, 0, 0]) (c' := 3) (k' := 23) TOK [4, 58, 61, 66] ⟨[(4, .bool false), (58, .bool true), (61, .bool false), (66, .bool (decide ((x27.n : Int) ≥ (x.n : Int))))], []⟩ [] (by kernel_rfl) (by kernel_rfl) ?_
            refine RV_st ⟨[(4, .bool false), (58, .bool true), (61, .bool false), (66, .bool true)], []⟩ (by rw [(show (decide ((x27.n : Int) ≥ (x.n : Int))) = true from by refine decide_eq_true ?_; simp only [List.length_append] at *; omega)]) ?_
            refine RV_go (hs := [0, 0, 0]) (c' := 0) (k' := 26) TOK [4] ⟨[(4, .bool true)], []⟩ [] (by kernel_rfl) (by kernel_rfl) ?_
            refine RV_end ?_
            refine KE_then ?_
            refine VC_ret (ls := []) TOK [] 0 false [] [.bool true] [] ([]) rfl (by kernel_rfl) (by kernel_rfl) (fun w9 hx9 => ?_)
            show (.bool true : Value) = .bool true
            rfl
          · skip
            have hG := hG.ext hx35
            have hx := hx.ext hx35
            have hx19 := hx19.ext hx35
            exact absurd (Split.one (hs18.app hw_xs) hs28).2.symm hr31
        · skip
          have hG := hG.ext hx25
          have hx := hx.ext hx25
          have hel_cs16 := congrArg List.length hs18.eq
          rw [List.length_append] at hel_cs16
          refine RV_go (hs := [0, 0, 0, 0, 0, 0, 0]) (c' := 0) (k' := 9) TOK [0, 1, 4, 5, 6, 8, 9] ⟨[(0, .slice x.a x.n x.c), (1, .string (B l)), (4, .bool false), (5, .bool true), (6, .string (B (printL xs))), (8, .int .i64 ((printL cs16).length : Int)), (9, .int .i64 1)], []⟩ [] (by kernel_rfl) (by kernel_rfl) ?_
          refine RV_end ?_
          refine KE_then ?_
          refine VC_seq ?_
          refine VC_region 11 rfl ?_
          refine RV_run (hs := [0, 0, 0]) (c' := 8) (k' := 3) TOK [] [0, 4, 5, 6, 8, 9, 39] ⟨[(0, .slice x.a x.n x.c), (4, .bool false), (5, .bool true), (6, .string (B (printL xs))), (8, .int .i64 ((printL cs16).length : Int)), (9, .int .i64 1), (39, .string (B (printL xs) ++ B l))], []⟩ [] [.sz ((printL xs).length + l.length)] (by kernel_rfl) (by kernel_rfl) ROS_nil (by simp only [Conds, Cond.holds, and_true]; omega) ?_
          refine RV_st ⟨[(0, .slice x.a x.n x.c), (4, .bool false), (5, .bool true), (6, .string (B (printL xs))), (8, .int .i64 ((printL cs16).length : Int)), (9, .int .i64 1), (39, .string (B ((printL xs) ++ l)))], []⟩ (by rw [B_app (printL xs) l]) ?_
          refine RV_call (c := 7) (f := 9) (vs := [.string (B ((printL xs) ++ l))]) (dst := (some 40)) (by kernel_rfl) E9 (fun wa hxe hp => c9 ((printL xs) ++ l) _ wa hp (hG.ext hxe) (by first | decide | (simp only [List.length_append] <;> omega) | omega | (simp only [List.length_take]; omega))) ?_
          rintro S42 w43 v44 _ hx45 (⟨cs36, x37, hs38, rfl, hx39⟩ | ⟨cs36, r40, hs38, hr41, rfl⟩)
          · skip
            have hG := hG.ext hx45
            have hx := hx.ext hx45
            exact absurd (Split.one (hs18.app hw_xs) hs38).2 hr21
          · skip
            have hG := hG.ext hx45
            have hx := hx.ext hx45
            obtain rfl := (Split.one (hs18.app hw_xs) hs38).1
            refine RV_go (hs := [0, 0, 0, 0, 0, 0, 0]) (c' := 0) (k' := 11) TOK [0, 4, 5, 6, 8, 9, 10, 11, 12] ⟨[(0, .slice x.a x.n x.c), (4, .bool false), (5, .bool true), (6, .string (B (printL xs))), (8, .int .i64 ((printL cs16).length : Int)), (9, .int .i64 1), (10, .slice none 0 0), (11, .int .i64 ((printL (xs ++ cs16)).length : Int)), (12, .int .i64 1)], []⟩ [] (by kernel_rfl) (by kernel_rfl) ?_
            refine RV_end ?_
            refine KE_then ?_
            refine VC_seq ?_
            refine VC_region 26 rfl ?_
            refine RV_go (hs := [0, 0, 0, 0, 0]) (c' := 21) (k' := 5) TOK [0, 4, 6, 8, 9, 10, 11, 45, 48] ⟨[(0, .slice x.a x.n x.c), (4, .bool false), (6, .string (B (printL xs))), (8, .int .i64 ((printL cs16).length : Int)), (9, .int .i64 1), (10, .slice none 0 0), (11, .int .i64 ((printL (xs ++ cs16)).length : Int)), (45, .bool true), (48, .bool (1 == 1))], []⟩ [] (by kernel_rfl) (by kernel_rfl) ?_
            refine RV_st ⟨[(0, .slice x.a x.n x.c), (4, .bool false), (6, .string (B (printL xs))), (8, .int .i64 ((printL cs16).length : Int)), (9, .int .i64 1), (10, .slice none 0 0), (11, .int .i64 ((printL (xs ++ cs16)).length : Int)), (45, .bool true), (48, .bool true)], []⟩ (by rw [(show (1 == 1) = true from by decide)]) ?_
            refine RV_go (hs := [0, 0, 0, 0, 0, 0, 0]) (c' := 14) (k' := 12) TOK [0, 4, 9, 10, 50, 51, 55] ⟨[(0, .slice x.a x.n x.c), (4, .bool false), (9, .int .i64 1), (10, .slice none 0 0), (50, .bool true), (51, .int .i64 ((printL (xs ++ cs16)).length : Int)), (55, .int .i64 (IntKind.i64.wrap (((printL xs).length : Int) + ((printL cs16).length : Int))))], []⟩ [] (by kernel_rfl) (by kernel_rfl) ?_
            refine RV_st ⟨[(0, .slice x.a x.n x.c), (4, .bool false), (9, .int .i64 1), (10, .slice none 0 0), (50, .bool true), (51, .int .i64 ((printL (xs ++ cs16)).length : Int)), (55, .int .i64 (((printL xs).length : Int) + ((printL cs16).length : Int)))], []⟩ (by rw [wrap_id (x := ((printL xs).length : Int) + ((printL cs16).length : Int)) (by unfold InR; first | omega | (simp only [List.length_append] <;> omega))]) ?_
            refine RV_go (hs := [0]) (c' := 13) (k' := 13) TOK [0, 4, 9, 10, 50, 56] ⟨[(0, .slice x.a x.n x.c), (4, .bool false), (9, .int .i64 1), (10, .slice none 0 0), (50, .bool true), (56, .bool (((printL (xs ++ cs16)).length : Int) == (((printL xs).length : Int) + ((printL cs16).length : Int))))], []⟩ [] (by kernel_rfl) (by kernel_rfl) ?_
            refine RV_st ⟨[(0, .slice x.a x.n x.c), (4, .bool false), (9, .int .i64 1), (10, .slice none 0 0), (50, .bool true), (56, .bool true)], []⟩ (by rw [(show (((printL (xs ++ cs16)).length : Int) == (((printL xs).length : Int) + ((printL cs16).length : Int))) = true from by rw [beq_iff_eq]; simp only [printL_app, List.length_append]; omega)]) ?_
            refine RV_go (hs := [0, 0, 0, 0]) (c' := 9) (k' := 17) TOK [0, 4, 10, 58, 60] ⟨[(0, .slice x.a x.n x.c), (4, .bool false), (10, .slice none 0 0), (58, .bool true), (60, .bool (1 != 0))], []⟩ [] (by kernel_rfl) (by kernel_rfl) ?_
            refine RV_st ⟨[(0, .slice x.a x.n x.c), (4, .bool false), (10, .slice none 0 0), (58, .bool true), (60, .bool true)], []⟩ (by rw [(show (1 != 0) = true from by decide)]) ?_
            refine RV_go (hs := [0, 0, 0, 0, 0, 0, 0, 0, 0]) (c' := 0) (k' := 26) TOK [4] ⟨[(4, .bool true)], []⟩ [] (by kernel_rfl) (by kernel_rfl) ?_
            refine RV_end ?_
            refine KE_then ?_
            refine VC_ret (ls := []) TOK [] 0 false [] [.bool true] [] ([]) rfl (by kernel_rfl) (by kernel_rfl) (fun w9 hx9 => ?_)
            show (.bool true : Value) = .bool true
            rfl

theorem f7 (x y : Sl) (xs ys : List Sc) (S : Nat → Prop) (w : World) (hP : Pre S w []) (hG : Glob S w) (hx : RSl scE S w x xs) (hy : RSl scE S w y ys) :
    Calls Tryd.prog 7 #[.slice x.a x.n x.c, .slice y.a y.n y.c] w (Ret S w [] fun v_ ls_ S_ w_ => v_ = .bool true) := by
  have hxn := hx.n
  have hyn := hy.n
  refine Calls_of_VC (ls := []) ⟨[(0, .slice x.a x.n x.c), (1, .slice y.a y.n y.c)], []⟩ Tryd.func7 rfl (by kernel_rfl) (by kernel_rfl) hP ?_
  refine VC_go (hs := [0]) TOK [0, 1, 4] ⟨[(0, .slice x.a x.n x.c), (1, .slice y.a y.n y.c), (4, .bool false)], []⟩ [] (by kernel_rfl) (by kernel_rfl) ?_
  refine VC_seq ?_
  refine VC_region 2 rfl ?_
  refine RV_call (c := 1) (f := 8) (vs := []) (dst := (some 8)) (by kernel_rfl) E8 (fun wa hxe hp => f8 _ wa hp (hG.ext hxe)) ?_
  rintro S1 w2 v3 _ hx4 rfl
  have hG := hG.ext hx4
  have hx := hx.ext hx4
  have hy := hy.ext hx4
  refine RV_go (hs := [0]) (c' := 0) (k' := 2) TOK [0, 1, 4, 5] ⟨[(0, .slice x.a x.n x.c), (1, .slice y.a y.n y.c), (4, .bool false), (5, .bool true)], []⟩ [] (by kernel_rfl) (by kernel_rfl) ?_
  refine RV_end ?_
  refine KE_then ?_
  refine VC_seq ?_
  refine VC_seq ?_
  refine VC_region 18 rfl ?_
  refine RV_go (hs := [0, 0, 0, 0]) (c' := 14) (k' := 4) TOK [0, 1, 4, 5, 12] ⟨[(0, .slice x.a x.n x.c), (1, .slice y.a y.n y.c), (4, .bool false), (5, .bool true), (12, .bool (decide ((x.n : Int) > 30)))], []⟩ [] (by kernel_rfl) (by kernel_rfl) ?_
  refine RV_case (decide ((x.n : Int) > 30)) (fun bb => ⟨[(0, .slice x.a x.n x.c), (1, .slice y.a y.n y.c), (4, .bool false), (5, .bool true), (12, .bool bb)], []⟩) (by kernel_rfl) (fun h5 => ?_) (fun h5 => ?_)
  · skip
    replace h5 := of_decide_eq_true h5
    refine RV_go (hs := [0, 0, 0, 0, 0, 0, 0, 0, 0, 0, 0, 0, 0, 0]) (c' := 0) (k' := 18) TOK [0, 1, 4, 5, 26] ⟨[(0, .slice x.a x.n x.c), (1, .slice y.a y.n y.c), (4, .bool false), (5, .bool true), (26, .bool true)], []⟩ [] (by kernel_rfl) (by kernel_rfl) ?_
    refine RV_end ?_
    refine KE_then ?_
    refine VC_true (by kernel_rfl) ?_
    refine VC_go (hs := [0, 0]) TOK [0, 1, 4, 5] ⟨[(0, .slice x.a x.n x.c), (1, .slice y.a y.n y.c), (4, .bool true), (5, .bool true)], []⟩ [] (by kernel_rfl) (by kernel_rfl) ?_
    refine VC_ret (ls := []) TOK [] 0 false [] [.bool true] [] ([]) rfl (by kernel_rfl) (by kernel_rfl) (fun w9 hx9 => ?_)
    show (.bool true : Value) = .bool true
    rfl
  · skip
    replace h5 := of_decide_eq_false h5
    refine RV_go (hs := [0, 0, 0, 0, 0]) (c' := 9) (k' := 9) TOK [0, 1, 4, 5, 17] ⟨[(0, .slice x.a x.n x.c), (1, .slice y.a y.n y.c), (4, .bool false), (5, .bool true), (17, .bool (decide ((y.n : Int) > 30)))], []⟩ [] (by kernel_rfl) (by kernel_rfl) ?_
    refine RV_case (decide ((y.n : Int) > 30)) (fun bb => ⟨[(0, .slice x.a x.n x.c), (1, .slice y.a y.n y.c), (4, .bool false), (5, .bool true), (17, .bool bb)], []⟩) (by kernel_rfl) (fun h6 => ?_) (fun h6 => ?_)
    · skip
      replace h6 := of_decide_eq_true h6
      refine RV_go (hs := [0, 0, 0, 0, 0, 0, 0, 0, 0]) (c' := 0) (k' := 18) TOK [0, 1, 4, 5, 26] ⟨[(0, .slice x.a x.n x.c), (1, .slice y.a y.n y.c), (4, .bool false), (5, .bool true), (26, .bool true)], []⟩ [] (by kernel_rfl) (by kernel_rfl) ?_
      refine RV_end ?_
      refine KE_then ?_
      refine VC_true (by kernel_rfl) ?_
      refine VC_go (hs := [0, 0]) TOK [0, 1, 4, 5] ⟨[(0, .slice x.a x.n x.c), (1, .slice y.a y.n y.c), (4, .bool true), (5, .bool true)], []⟩ [] (by kernel_rfl) (by kernel_rfl) ?_
      refine VC_ret (ls := []) TOK [] 0 false [] [.bool true] [] ([]) rfl (by kernel_rfl) (by kernel_rfl) (fun w9 hx9 => ?_)
      show (.bool true : Value) = .bool true
      rfl
    · skip
      replace h6 := of_decide_eq_false h6
      refine RV_go (hs := [0]) (c' := 8) (k' := 10) TOK [0, 1, 4, 5, 17, 18] ⟨[(0, .slice x.a x.n x.c), (1, .slice y.a y.n y.c), (4, .bool false), (5, .bool true), (17, .bool false), (18, .slice x.a x.n x.c)], []⟩ [] (by kernel_rfl) (by kernel_rfl) ?_
      refine RV_call (c := 7) (f := 13) (vs := [.slice x.a x.n x.c]) (dst := (some 19)) (by kernel_rfl) E13 (fun wa hxe hp => f13 x xs _ wa hp (hx.ext hxe) (by omega)) ?_
      rintro S7 w8 v9 _ hx10 rfl
      have hG := hG.ext hx10
      have hx := hx.ext hx10
      have hy := hy.ext hx10
      refine RV_go (hs := [0, 0, 0]) (c' := 4) (k' := 14) TOK [0, 1, 4, 5, 22] ⟨[(0, .slice x.a x.n x.c), (1, .slice y.a y.n y.c), (4, .bool false), (5, .bool true), (22, .bool (!(decide (∀ c ∈ xs, Wr c))))], []⟩ [] (by kernel_rfl) (by kernel_rfl) ?_
      refine RV_case (!(decide (∀ c ∈ xs, Wr c))) (fun bb => ⟨[(0, .slice x.a x.n x.c), (1, .slice y.a y.n y.c), (4, .bool false), (5, .bool true), (22, .bool bb)], []⟩) (by kernel_rfl) (fun h11 => ?_) (fun h11 => ?_)
      · skip
        have h11 : (decide (∀ c ∈ xs, Wr c)) = false := by simpa using h11
        refine RV_go (hs := [0, 0, 0, 0]) (c' := 0) (k' := 18) TOK [0, 1, 4, 5, 26] ⟨[(0, .slice x.a x.n x.c), (1, .slice y.a y.n y.c), (4, .bool false), (5, .bool true), (26, .bool true)], []⟩ [] (by kernel_rfl) (by kernel_rfl) ?_
        refine RV_end ?_
        refine KE_then ?_
        refine VC_true (by kernel_rfl) ?_
        refine VC_go (hs := [0, 0]) TOK [0, 1, 4, 5] ⟨[(0, .slice x.a x.n x.c), (1, .slice y.a y.n y.c), (4, .bool true), (5, .bool true)], []⟩ [] (by kernel_rfl) (by kernel_rfl) ?_
        refine VC_ret (ls := []) TOK [] 0 false [] [.bool true] [] ([]) rfl (by kernel_rfl) (by kernel_rfl) (fun w9 hx9 => ?_)
        show (.bool true : Value) = .bool true
        rfl
      · skip
        have h11 : (decide (∀ c ∈ xs, Wr c)) = true := by simpa using h11
        have hw_xs := of_decide_eq_true h11
        have hpl_xs := print_len hw_xs
        refine RV_go (hs := [0]) (c' := 3) (k' := 15) TOK [0, 1, 4, 5, 22, 23] ⟨[(0, .slice x.a x.n x.c), (1, .slice y.a y.n y.c), (4, .bool false), (5, .bool true), (22, .bool false), (23, .slice y.a y.n y.c)], []⟩ [] (by kernel_rfl) (by kernel_rfl) ?_
        refine RV_call (c := 2) (f := 13) (vs := [.slice y.a y.n y.c]) (dst := (some 24)) (by kernel_rfl) E13 (fun wa hxe hp => f13 y ys _ wa hp (hy.ext hxe) (by omega)) ?_
        rintro S12 w13 v14 _ hx15 rfl
        have hG := hG.ext hx15
        have hx := hx.ext hx15
        have hy := hy.ext hx15
        refine RV_go (hs := [0, 0]) (c' := 0) (k' := 18) TOK [0, 1, 4, 5, 26] ⟨[(0, .slice x.a x.n x.c), (1, .slice y.a y.n y.c), (4, .bool false), (5, .bool true), (26, .bool (!(decide (∀ c ∈ ys, Wr c))))], []⟩ [] (by kernel_rfl) (by kernel_rfl) ?_
        refine RV_end ?_
        refine KE_then ?_
        refine VC_cond (!(decide (∀ c ∈ ys, Wr c))) (by kernel_rfl) (fun h16 => ?_) (fun h16 => ?_)
        · skip
          have h16 : (decide (∀ c ∈ ys, Wr c)) = false := by simpa using h16
          refine VC_go (hs := [0, 0]) TOK [0, 1, 4, 5] ⟨[(0, .slice x.a x.n x.c), (1, .slice y.a y.n y.c), (4, .bool true), (5, .bool true)], []⟩ [] (by kernel_rfl) (by kernel_rfl) ?_
          refine VC_ret (ls := []) TOK [] 0 false [] [.bool true] [] ([]) rfl (by kernel_rfl) (by kernel_rfl) (fun w9 hx9 => ?_)
          show (.bool true : Value) = .bool true
          rfl
        · skip
          have h16 : (decide (∀ c ∈ ys, Wr c)) = true := by simpa using h16
          have hw_ys := of_decide_eq_true h16
          have hpl_ys := print_len hw_ys
          refine VC_skip ?_
          refine KE_then ?_
          refine VC_seq ?_
          refine VC_region 4 rfl ?_
          refine RV_go (hs := [0, 0]) (c' := 2) (k' := 2) TOK [0, 1, 4, 5, 28, 29] ⟨[(0, .slice x.a x.n x.c), (1, .slice y.a y.n y.c), (4, .bool false), (5, .bool true), (28, .slice x.a x.n x.c), (29, .slice y.a y.n y.c)], []⟩ [] (by kernel_rfl) (by kernel_rfl) ?_
          refine RV_call (c := 1) (f := 12) (vs := [.slice x.a x.n x.c, .slice y.a y.n y.c]) (dst := (some 30)) (by kernel_rfl) E12 (fun wa hxe hp => f12 x y xs ys _ wa hp (hx.ext hxe) (hy.ext hxe) (by first | omega | decide | (simp only [List.length_append, List.length_cons, List.length_nil]; omega) | (simp only [List.length_take]; omega))) ?_
          rintro S17 w18 v19 _ hx20 rfl
          have hG := hG.ext hx20
          have hx := hx.ext hx20
          have hy := hy.ext hx20
          refine RV_go (hs := [0]) (c' := 0) (k' := 4) TOK [0, 1, 4, 5, 6] ⟨[(0, .slice x.a x.n x.c), (1, .slice y.a y.n y.c), (4, .bool false), (5, .bool true), (6, .bool (decide (xs = ys)))], []⟩ [] (by kernel_rfl) (by kernel_rfl) ?_
          refine RV_end ?_
          refine KE_then ?_
          refine VC_seq ?_
          refine VC_region 7 rfl ?_
          refine RV_new (c := 6) TOK [0, 1, 4, 5, 6, 31] (fun b21 => ⟨[(0, .slice x.a x.n x.c), (1, .slice y.a y.n y.c), (4, .bool false), (5, .bool true), (6, .bool (decide (xs = ys))), (31, .slice (some ⟨b21, 0, none⟩) 0 0)], [⟨b21, 36, []⟩]⟩) (fun _ => by kernel_rfl) (fun b21 => ?_)
          refine RV_go (hs := [0]) (c' := 5) (k' := 2) TOK [0, 1, 4, 5, 6, 31, 32] ⟨[(0, .slice x.a x.n x.c), (1, .slice y.a y.n y.c), (4, .bool false), (5, .bool true), (6, .bool (decide (xs = ys))), (31, .slice (some ⟨b21, 0, none⟩) 0 0), (32, .slice x.a x.n x.c)], [⟨b21, 36, []⟩]⟩ [] (by kernel_rfl) (by kernel_rfl) ?_
          obtain ⟨news22, hl23, hr24, hc25, hs26⟩ := hx.cells
          refine RV_append1 (c := 4) (t := 22) (e := 36) (ti := ti36) (v := ⟨(some ⟨b21, 0, none⟩), 0, 0⟩) (x := ⟨x.a, x.n, x.c⟩) (dst := some 33) (by' := 24) (xs := []) (news := news22) TOK [] [⟨b21, 36, []⟩] (by kernel_rfl) rfl (by kernel_rfl) (by kernel_rfl) (RowOK.lit (e := 36) (size := 3) (g := b21) (n := 0) (xs := []) rfl (by decide)) (fun wa hI => hs26 hI.toExt) hc25 (by simp only [maxLen]; omega) (by dsimp only; omega) ?_
          intro ra27 rc28 tl29 hrow30
          refine RV_go (hs := [0]) (c' := 3) (k' := 4) TOK [0, 1, 4, 5, 6, 33, 34] ⟨[(0, .slice x.a x.n x.c), (1, .slice y.a y.n y.c), (4, .bool false), (5, .bool true), (6, .bool (decide (xs = ys))), (33, .slice ra27 (0 + x.n) rc28), (34, .agg #[.int .i64 0, .int .i64 0, .int .i64 0])], tl29⟩ [] (by kernel_rfl) (by kernel_rfl) ?_
          refine RV_new (c := 2) TOK [0, 1, 4, 5, 6, 33, 35] (fun b31 => ⟨[(0, .slice x.a x.n x.c), (1, .slice y.a y.n y.c), (4, .bool false), (5, .bool true), (6, .bool (decide (xs = ys))), (33, .slice ra27 (0 + x.n) rc28), (35, .slice (some ⟨b31, 0, none⟩) 1 1)], ⟨b31, 36, [.int .i64 0, .int .i64 0, .int .i64 0]⟩ :: tl29⟩) (fun _ => by kernel_rfl) (fun b31 => ?_)
          refine RV_append1 (c := 1) (t := 22) (e := 36) (ti := ti36) (v := ⟨ra27, (0 + x.n), rc28⟩) (x := ⟨(some ⟨b31, 0, none⟩), 1, 1⟩) (dst := some 36) (by' := 24) (xs := ([] ++ news22)) (news := [.int .i64 0, .int .i64 0, .int .i64 0]) TOK [⟨b31, 36, [.int .i64 0, .int .i64 0, .int .i64 0]⟩] tl29 (by kernel_rfl) rfl (by kernel_rfl) (by kernel_rfl) hrow30 (fun wa hI => SrcIs.own (k := 1) (ty := 36) hI (by simp) rfl) (by kernel_rfl) (by simp only [maxLen]; omega) (by dsimp only; omega) ?_
          intro ra32 rc33 tl34 hrow35
          refine RV_go (hs := [0]) (c' := 0) (k' := 7) TOK [0, 1, 4, 5, 6, 7] ⟨[(0, .slice x.a x.n x.c), (1, .slice y.a y.n y.c), (4, .bool false), (5, .bool true), (6, .bool (decide (xs = ys))), (7, .slice ra32 ((0 + x.n) + 1) rc33)], ⟨b31, 36, [.int .i64 0, .int .i64 0, .int .i64 0]⟩ :: tl34⟩ [] (by kernel_rfl) (by kernel_rfl) ?_
          refine RV_end ?_
          refine KE_then ?_
          refine VC_seq ?_
          refine VC_region 29 rfl ?_
          refine RV_go (hs := [0, 0, 0, 0]) (c' := 25) (k' := 4) TOK [0, 1, 4, 6, 7, 38, 39, 40] ⟨[(0, .slice x.a x.n x.c), (1, .slice y.a y.n y.c), (4, .bool false), (6, .bool (decide (xs = ys))), (7, .slice ra32 ((0 + x.n) + 1) rc33), (38, .bool true), (39, .bool (decide (xs = ys))), (40, .slice x.a x.n x.c)], ⟨b31, 36, [.int .i64 0, .int .i64 0, .int .i64 0]⟩ :: tl34⟩ [] (by kernel_rfl) (by kernel_rfl) ?_
          refine RV_call (c := 24) (f := 14) (vs := [.slice x.a x.n x.c]) (dst := (some 41)) (by kernel_rfl) E14 (fun wa hxe hp => f14 x xs _ wa hp (hG.ext hxe) (hx.ext hxe) hw_xs (by first | omega | decide | (simp only [List.length_append]; omega))) ?_
          rintro S36 w37 v38 _ hx39 rfl
          have hG := hG.ext hx39
          have hx := hx.ext hx39
          have hy := hy.ext hx39
          refine RV_go (hs := [0]) (c' := 23) (k' := 6) TOK [0, 1, 4, 6, 7, 38, 39, 41, 42] ⟨[(0, .slice x.a x.n x.c), (1, .slice y.a y.n y.c), (4, .bool false), (6, .bool (decide (xs = ys))), (7, .slice ra32 ((0 + x.n) + 1) rc33), (38, .bool true), (39, .bool (decide (xs = ys))), (41, .string (B (printL xs))), (42, .slice y.a y.n y.c)], ⟨b31, 36, [.int .i64 0, .int .i64 0, .int .i64 0]⟩ :: tl34⟩ [] (by kernel_rfl) (by kernel_rfl) ?_
          refine RV_call (c := 22) (f := 14) (vs := [.slice y.a y.n y.c]) (dst := (some 43)) (by kernel_rfl) E14 (fun wa hxe hp => f14 y ys _ wa hp (hG.ext hxe) (hy.ext hxe) hw_ys (by first | omega | decide | (simp only [List.length_append]; omega))) ?_
          rintro S40 w41 v42 _ hx43 rfl
          have hG := hG.ext hx43
          have hx := hx.ext hx43
          have hy := hy.ext hx43
          refine RV_go (hs := [0, 0]) (c' := 20) (k' := 9) TOK [0, 1, 4, 6, 7, 38, 45] ⟨[(0, .slice x.a x.n x.c), (1, .slice y.a y.n y.c), (4, .bool false), (6, .bool (decide (xs = ys))), (7, .slice ra32 ((0 + x.n) + 1) rc33), (38, .bool true), (45, .bool ((decide (xs = ys)) == ((B (printL xs)).toList == (B (printL ys)).toList)))], ⟨b31, 36, [.int .i64 0, .int .i64 0, .int .i64 0]⟩ :: tl34⟩ [] (by kernel_rfl) (by kernel_rfl) ?_
          refine RV_st ⟨[(0, .slice x.a x.n x.c), (1, .slice y.a y.n y.c), (4, .bool false), (6, .bool (decide (xs = ys))), (7, .slice ra32 ((0 + x.n) + 1) rc33), (38, .bool true), (45, .bool true)], ⟨b31, 36, [.int .i64 0, .int .i64 0, .int .i64 0]⟩ :: tl34⟩ (by rw [(show ((decide (xs = ys)) == ((B (printL xs)).toList == (B (printL ys)).toList)) = true from by exact same_print hw_xs hw_ys)]) ?_
          refine RV_go (hs := [0, 0, 0, 0, 0]) (c' := 15) (k' := 14) TOK [0, 4, 7, 47, 48, 49, 50] ⟨[(0, .slice x.a x.n x.c), (4, .bool false), (7, .slice ra32 ((0 + x.n) + 1) rc33), (47, .bool true), (48, .bool (decide (xs = ys))), (49, .slice y.a y.n y.c), (50, .slice x.a x.n x.c)], ⟨b31, 36, [.int .i64 0, .int .i64 0, .int .i64 0]⟩ :: tl34⟩ [] (by kernel_rfl) (by kernel_rfl) ?_
          refine RV_call (c := 14) (f := 12) (vs := [.slice y.a y.n y.c, .slice x.a x.n x.c]) (dst := (some 51)) (by kernel_rfl) E12 (fun wa hxe hp => f12 y x ys xs _ wa hp (hy.ext hxe) (hx.ext hxe) (by first | omega | decide | (simp only [List.length_append, List.length_cons, List.length_nil]; omega) | (simp only [List.length_take]; omega))) ?_
          rintro S44 w45 v46 _ hx47 rfl
          have hG := hG.ext hx47
          have hx := hx.ext hx47
          have hy := hy.ext hx47
          refine RV_go (hs := [0]) (c' := 13) (k' := 16) TOK [0, 4, 7, 47, 52] ⟨[(0, .slice x.a x.n x.c), (4, .bool false), (7, .slice ra32 ((0 + x.n) + 1) rc33), (47, .bool true), (52, .bool ((decide (xs = ys)) == (decide (ys = xs))))], ⟨b31, 36, [.int .i64 0, .int .i64 0, .int .i64 0]⟩ :: tl34⟩ [] (by kernel_rfl) (by kernel_rfl) ?_
          refine RV_st ⟨[(0, .slice x.a x.n x.c), (4, .bool false), (7, .slice ra32 ((0 + x.n) + 1) rc33), (47, .bool true), (52, .bool true)], ⟨b31, 36, [.int .i64 0, .int .i64 0, .int .i64 0]⟩ :: tl34⟩ (by rw [(show ((decide (xs = ys)) == (decide (ys = xs))) = true from by exact same_symm xs ys)]) ?_
          refine RV_go (hs := [0, 0, 0, 0]) (c' := 9) (k' := 20) TOK [0, 4, 7, 54, 55, 56] ⟨[(0, .slice x.a x.n x.c), (4, .bool false), (7, .slice ra32 ((0 + x.n) + 1) rc33), (54, .bool true), (55, .slice x.a x.n x.c), (56, .slice x.a x.n x.c)], ⟨b31, 36, [.int .i64 0, .int .i64 0, .int .i64 0]⟩ :: tl34⟩ [] (by kernel_rfl) (by kernel_rfl) ?_
          refine RV_call (c := 8) (f := 12) (vs := [.slice x.a x.n x.c, .slice x.a x.n x.c]) (dst := (some 57)) (by kernel_rfl) E12 (fun wa hxe hp => f12 x x xs xs _ wa hp (hx.ext hxe) (hx.ext hxe) (by first | omega | decide | (simp only [List.length_append, List.length_cons, List.length_nil]; omega) | (simp only [List.length_take]; omega))) ?_
          rintro S48 w49 v50 _ hx51 rfl
          have hG := hG.ext hx51
          have hx := hx.ext hx51
          have hy := hy.ext hx51
          refine RV_go (hs := [0]) (c' := 7) (k' := 22) TOK [0, 4, 7, 58] ⟨[(0, .slice x.a x.n x.c), (4, .bool false), (7, .slice ra32 ((0 + x.n) + 1) rc33), (58, .bool (decide (xs = xs)))], ⟨b31, 36, [.int .i64 0, .int .i64 0, .int .i64 0]⟩ :: tl34⟩ [] (by kernel_rfl) (by kernel_rfl) ?_
          refine RV_st ⟨[(0, .slice x.a x.n x.c), (4, .bool false), (7, .slice ra32 ((0 + x.n) + 1) rc33), (58, .bool true)], ⟨b31, 36, [.int .i64 0, .int .i64 0, .int .i64 0]⟩ :: tl34⟩ (by rw [(show (decide (xs = xs)) = true from by simp)]) ?_
          refine RV_go (hs := [0, 0, 0]) (c' := 4) (k' := 25) TOK [4, 59, 60, 61] ⟨[(4, .bool false), (59, .bool true), (60, .slice ra32 ((0 + x.n) + 1) rc33), (61, .slice x.a x.n x.c)], ⟨b31, 36, [.int .i64 0, .int .i64 0, .int .i64 0]⟩ :: tl34⟩ [] (by kernel_rfl) (by kernel_rfl) ?_
          refine RV_freeze1 [⟨b31, 36, [.int .i64 0, .int .i64 0, .int .i64 0]⟩] tl34 rfl hrow35 (fun _ _ h => by simp [idsOf] at h) (fun S52 w53 hx54 hrsl55 => ?_)
          have hG := hG.ext hx54
          have hx := hx.ext hx54
          have hy := hy.ext hx54
          have hz56 : RSl scE S52 w53 ⟨ra32, ((0 + x.n) + 1), rc33⟩ (xs ++ [⟨0, 0, 0⟩]) := hrsl55 scE _ rfl (by simp only [List.length_append, List.length_singleton]; omega) (by simpa [cellsC, Sc.cells] using ((((((hr24.ext hx39).ext hx43).ext hx47).ext hx51).ext hx54).app hl23 (Reads_sc (S := S52) (w := w53) [⟨0, 0, 0⟩] (by intro c hc; simp only [List.mem_singleton] at hc; subst hc; simp only [InR]; omega))))
          refine RV_call (c := 3) (f := 12) (vs := [.slice ra32 ((0 + x.n) + 1) rc33, .slice x.a x.n x.c]) (dst := (some 62)) (by kernel_rfl) E12 (fun wa hxe hp => f12 ⟨ra32, ((0 + x.n) + 1), rc33⟩ x (xs ++ [⟨0, 0, 0⟩]) xs _ wa hp (hz56.ext hxe) (hx.ext hxe) (by first | omega | decide | (simp only [List.length_append, List.length_cons, List.length_nil]; omega) | (simp only [List.length_take]; omega))) ?_
          rintro S57 w58 v59 _ hx60 rfl
          have hG := hG.ext hx60
          have hz56 := hz56.ext hx60
          have hx := hx.ext hx60
          have hy := hy.ext hx60
          refine RV_go (hs := [0]) (c' := 2) (k' := 27) TOK [4, 59, 63] ⟨[(4, .bool false), (59, .bool true), (63, .bool (!(decide (xs ++ [⟨0, 0, 0⟩] = xs))))], [⟨b31, 36, [.int .i64 0, .int .i64 0, .int .i64 0]⟩]⟩ [] (by kernel_rfl) (by kernel_rfl) ?_
          refine RV_st ⟨[(4, .bool false), (59, .bool true), (63, .bool true)], [⟨b31, 36, [.int .i64 0, .int .i64 0, .int .i64 0]⟩]⟩ (by rw [(show (!(decide (xs ++ [⟨0, 0, 0⟩] = xs))) = true from by rw [show (decide (xs ++ [⟨0, 0, 0⟩] = xs)) = false from by exact more_ne xs]; rfl)]) ?_
          refine RV_go (hs := [0, 0]) (c' := 0) (k' := 29) TOK [4] ⟨[(4, .bool true)], [⟨b31, 36, [.int .i64 0, .int .i64 0, .int .i64 0]⟩]⟩ [] (by kernel_rfl) (by kernel_rfl) ?_
          refine RV_end ?_
          refine KE_then ?_
          refine VC_ret (ls := []) TOK [] 1 false [] [.bool true] [] ([]) rfl (by kernel_rfl) (by kernel_rfl) (fun w9 hx9 => ?_)
          show (.bool true : Value) = .bool true
          rfl

end Go.YtmfkmoecbnghhaaDoor
