/- Contracts of functions, over the symbolic executor: each comes to what its theorem says. Written by gen.py, a program of this work. -/
import Derived.Test.YtmfkmoecbnghhaaDoorA8
namespace Go.YtmfkmoecbnghhaaDoor
open Go Eng Go.Proofs Law
set_option linter.unusedVariables false
set_option linter.unusedSimpArgs false

theorem ok_1 {k : Int} {a b : Bool} (h : 0 ≤ k) (ha : a = true) : b = (decide (0 ≤ k) && (a && b)) := by rw [decide_eq_true h, ha]; simp
theorem ok_2 {k : Int} {a b : Bool} (ha : a = false) : false = (decide (0 ≤ k) && (a && b)) := by rw [ha]; simp
theorem ok_3 {k : Int} {a b : Bool} (h : k < 0) : false = (decide (0 ≤ k) && (a && b)) := by rw [decide_eq_false (by omega)]; simp
theorem trim_le (l : List UInt8) : (Lib.trimSuffix l [10]).length ≤ l.length := by
  unfold Lib.trimSuffix
  split
  · rw [List.length_take]; omega
  · exact Nat.le_refl _
theorem part_len {t p q r : List UInt8} (h : Lib.split t [32] = [p, q, r]) : p.length ≤ t.length ∧ q.length ≤ t.length ∧ r.length ≤ t.length := by
  have := split_three h
  subst this
  simp only [List.length_append, List.length_cons]
  omega

theorem f19 (l : List UInt8) (S : Nat → Prop) (w : World) (hP : Pre S w []) (hG : Glob S w) (hl : l.length ≤ 1000000) :
    Calls Tryd.prog 19 #[.string (B l)] w (Ret S w [] fun v_ ls_ S_ w_ => ∃ c ok, v_ = .tuple #[.agg #[.int .i64 c.no, .int .i64 c.a, .int .i64 c.b], .bool ok] ∧ LineR l c ok) := by
  refine Calls_of_VC (ls := []) ⟨[(0, .string (B l))], []⟩ Tryd.func19 rfl (by kernel_rfl) (by kernel_rfl) hP ?_
  refine VC_seq ?_
  refine VC_region 2 rfl ?_
  refine RV_new (c := 1) TOK [0, 2] (fun b1 => ⟨[(0, .string (B l)), (2, .pointer (some ⟨b1, 0, none⟩))], [⟨b1, 36, [.int .i64 0, .int .i64 0, .int .i64 0]⟩]⟩) (fun _ => by kernel_rfl) (fun b1 => ?_)
  refine RV_go (hs := [0]) (c' := 0) (k' := 2) TOK [0, 2, 3] ⟨[(0, .string (B l)), (2, .pointer (some ⟨b1, 0, none⟩)), (3, .bool false)], [⟨b1, 36, [.int .i64 0, .int .i64 0, .int .i64 0]⟩]⟩ [] (by kernel_rfl) (by kernel_rfl) ?_
  refine RV_end ?_
  refine KE_then ?_
  refine VC_seq ?_
  refine VC_region 7 rfl ?_
  refine RV_go (hs := [0]) (c' := 6) (k' := 1) TOK [2, 3, 14] ⟨[(2, .pointer (some ⟨b1, 0, none⟩)), (3, .bool false), (14, .string (B l))], [⟨b1, 36, [.int .i64 0, .int .i64 0, .int .i64 0]⟩]⟩ [] (by kernel_rfl) (by kernel_rfl) ?_
  refine RV_call (c := 5) (f := 31) (vs := [.string (B l), .string (B ([10] : List UInt8))]) (dst := (some 15)) (by kernel_rfl) E31 (fun wa hxe hp => c31 l _ wa hp (by omega)) ?_
  rintro S2 w3 v4 _ hx5 rfl
  have hG := hG.ext hx5
  refine RV_go (hs := [0, 0, 0, 0, 0]) (c' := 0) (k' := 7) TOK [2, 3, 4, 5] ⟨[(2, .pointer (some ⟨b1, 0, none⟩)), (3, .bool false), (4, .string (B (Lib.trimSuffix l [10]))), (5, .bool (Lib.hasSuffix l [10]))], [⟨b1, 36, [.int .i64 0, .int .i64 0, .int .i64 0]⟩]⟩ [] (by kernel_rfl) (by kernel_rfl) ?_
  refine RV_end ?_
  refine KE_then ?_
  refine VC_seq ?_
  refine VC_region 4 rfl ?_
  refine RV_go (hs := [0]) (c' := 3) (k' := 1) TOK [2, 3, 5, 18] ⟨[(2, .pointer (some ⟨b1, 0, none⟩)), (3, .bool false), (5, .bool (Lib.hasSuffix l [10])), (18, .string (B (Lib.trimSuffix l [10])))], [⟨b1, 36, [.int .i64 0, .int .i64 0, .int .i64 0]⟩]⟩ [] (by kernel_rfl) (by kernel_rfl) ?_
  refine RV_call (c := 2) (f := 32) (vs := [.string (B (Lib.trimSuffix l [10])), .string (B ([32] : List UInt8))]) (dst := (some 19)) (by kernel_rfl) E32 (fun wa hxe hp => c32 (Lib.trimSuffix l [10]) _ wa hp (hG.ext hxe) (by have := trim_le l; omega)) ?_
  rintro S6 w7 v8 _ hx9 ⟨x, rfl, hx⟩
  have hxn := hx.n
  have hG := hG.ext hx9
  refine RV_new (c := 1) TOK [2, 3, 5, 6, 19] (fun b10 => ⟨[(2, .pointer (some ⟨b1, 0, none⟩)), (3, .bool false), (5, .bool (Lib.hasSuffix l [10])), (6, .pointer (some ⟨b10, 0, none⟩)), (19, .slice x.a x.n x.c)], [⟨b10, 68, [.slice none 0 0]⟩, ⟨b1, 36, [.int .i64 0, .int .i64 0, .int .i64 0]⟩]⟩) (fun _ => by kernel_rfl) (fun b10 => ?_)
  refine RV_go (hs := [0]) (c' := 0) (k' := 4) TOK [2, 3, 5, 6] ⟨[(2, .pointer (some ⟨b1, 0, none⟩)), (3, .bool false), (5, .bool (Lib.hasSuffix l [10])), (6, .pointer (some ⟨b10, 0, none⟩))], [⟨b10, 68, [.slice x.a x.n x.c]⟩, ⟨b1, 36, [.int .i64 0, .int .i64 0, .int .i64 0]⟩]⟩ [b10] (by kernel_rfl) (by kernel_rfl) ?_
  refine RV_end ?_
  refine KE_then ?_
  refine VC_seq ?_
  refine VC_seq ?_
  refine VC_region 7 rfl ?_
  refine RV_go (hs := [0, 0, 0]) (c' := 4) (k' := 3) TOK [2, 3, 6, 22] ⟨[(2, .pointer (some ⟨b1, 0, none⟩)), (3, .bool false), (6, .pointer (some ⟨b10, 0, none⟩)), (22, .bool (!(Lib.hasSuffix l [10])))], [⟨b10, 68, [.slice x.a x.n x.c]⟩, ⟨b1, 36, [.int .i64 0, .int .i64 0, .int .i64 0]⟩]⟩ [] (by kernel_rfl) (by kernel_rfl) ?_
  refine RV_case (!(Lib.hasSuffix l [10])) (fun bb => ⟨[(2, .pointer (some ⟨b1, 0, none⟩)), (3, .bool false), (6, .pointer (some ⟨b10, 0, none⟩)), (22, .bool bb)], [⟨b10, 68, [.slice x.a x.n x.c]⟩, ⟨b1, 36, [.int .i64 0, .int .i64 0, .int .i64 0]⟩]⟩) (by kernel_rfl) (fun h11 => ?_) (fun h11 => ?_)
  · skip
    have h11 : (Lib.hasSuffix l [10]) = false := by simpa using h11
    refine RV_go (hs := [0, 0, 0, 0]) (c' := 0) (k' := 7) TOK [2, 3, 6, 26] ⟨[(2, .pointer (some ⟨b1, 0, none⟩)), (3, .bool false), (6, .pointer (some ⟨b10, 0, none⟩)), (26, .bool true)], [⟨b10, 68, [.slice x.a x.n x.c]⟩, ⟨b1, 36, [.int .i64 0, .int .i64 0, .int .i64 0]⟩]⟩ [] (by kernel_rfl) (by kernel_rfl) ?_
    refine RV_end ?_
    refine KE_then ?_
    refine VC_true (by kernel_rfl) ?_
    refine VC_go (hs := [0, 1, 0]) TOK [2, 3, 6] ⟨[(2, .pointer (some ⟨b1, 0, none⟩)), (3, .bool false), (6, .pointer (some ⟨b10, 0, none⟩))], [⟨b10, 68, [.slice x.a x.n x.c]⟩, ⟨b1, 36, [.int .i64 0, .int .i64 0, .int .i64 0]⟩]⟩ [b1] (by kernel_rfl) (by kernel_rfl) ?_
    refine VC_ret (ls := []) TOK [] 2 false [1] [.agg #[.int .i64 0, .int .i64 0, .int .i64 0], .bool false] [b1] ([]) rfl (by kernel_rfl) (by kernel_rfl) (fun w9 hx9 => ?_)
    show ∃ c ok, (.tuple #[.agg #[.int .i64 0, .int .i64 0, .int .i64 0], .bool false] : Value) = .tuple #[.agg #[.int .i64 c.no, .int .i64 c.a, .int .i64 c.b], .bool ok] ∧ LineR l c ok
    first | exact ⟨⟨0, 0, 0⟩, false, rfl, line_no (.inl (by assumption))⟩ | exact ⟨⟨0, 0, 0⟩, false, rfl, line_no (.inr (by omega))⟩
  · skip
    have h11 : (Lib.hasSuffix l [10]) = true := by simpa using h11
    refine RV_go (hs := [0, 0, 0, 0]) (c' := 0) (k' := 7) TOK [2, 3, 6, 26] ⟨[(2, .pointer (some ⟨b1, 0, none⟩)), (3, .bool false), (6, .pointer (some ⟨b10, 0, none⟩)), (26, .bool ((x.n : Int) != 3))], [⟨b10, 68, [.slice x.a x.n x.c]⟩, ⟨b1, 36, [.int .i64 0, .int .i64 0, .int .i64 0]⟩]⟩ [b10] (by kernel_rfl) (by kernel_rfl) ?_
    refine RV_end ?_
    refine KE_then ?_
    refine VC_cond ((x.n : Int) != 3) (by kernel_rfl) (fun h12 => ?_) (fun h12 => ?_)
    · skip
      replace h12 := bne_iff_ne.1 h12
      refine VC_go (hs := [0, 1, 0]) TOK [2, 3, 6] ⟨[(2, .pointer (some ⟨b1, 0, none⟩)), (3, .bool false), (6, .pointer (some ⟨b10, 0, none⟩))], [⟨b10, 68, [.slice x.a x.n x.c]⟩, ⟨b1, 36, [.int .i64 0, .int .i64 0, .int .i64 0]⟩]⟩ [b1] (by kernel_rfl) (by kernel_rfl) ?_
      refine VC_ret (ls := []) TOK [] 2 false [1] [.agg #[.int .i64 0, .int .i64 0, .int .i64 0], .bool false] [b1] ([]) rfl (by kernel_rfl) (by kernel_rfl) (fun w9 hx9 => ?_)
      show ∃ c ok, (.tuple #[.agg #[.int .i64 0, .int .i64 0, .int .i64 0], .bool false] : Value) = .tuple #[.agg #[.int .i64 c.no, .int .i64 c.a, .int .i64 c.b], .bool ok] ∧ LineR l c ok
      first | exact ⟨⟨0, 0, 0⟩, false, rfl, line_no (.inl (by assumption))⟩ | exact ⟨⟨0, 0, 0⟩, false, rfl, line_no (.inr (by omega))⟩
    · skip
      replace h12 : (x.n : Int) = 3 := by simpa using h12
      obtain ⟨p, q, r, hpqr⟩ := three_of (l := Lib.split (Lib.trimSuffix l [10]) [32]) (by omega)
      rw [hpqr] at hx hxn
      refine VC_skip ?_
      refine KE_then ?_
      refine VC_seq ?_
      refine VC_region 3 rfl ?_
      refine RV_call (c := 2) (f := 22) (vs := []) (dst := (some 28)) (by kernel_rfl) E22 (fun wa hxe hp => f22 _ wa hp) ?_
      rintro S13 w14 v15 _ hx16 rfl
      have hG := hG.ext hx16
      have hx := hx.ext hx16
      refine RV_new (c := 1) TOK [2, 3, 6, 7, 28] (fun b17 => ⟨[(2, .pointer (some ⟨b1, 0, none⟩)), (3, .bool false), (6, .pointer (some ⟨b10, 0, none⟩)), (7, .pointer (some ⟨b17, 0, none⟩)), (28, .agg #[.string (B ([115, 101, 110, 100] : List UInt8)), .int .i64 28, .int .i64 8, .bool true, .int .i64 1, .int .i64 0, .int .i64 0, .string (B ([114, 101, 99, 118] : List UInt8)), .int .i64 29, .int .i64 8, .bool false, .int .i64 2, .int .i64 0, .int .i64 0, .string (B ([116, 114, 121] : List UInt8)), .int .i64 10, .int .i64 8, .bool false, .int .i64 2, .int .i64 3, .int .i64 0, .string (B ([112, 117, 116] : List UInt8)), .int .i64 16, .int .i64 65536, .bool true, .int .i64 4, .int .i64 0, .int .i64 5, .string (B ([108, 111, 111, 107] : List UInt8)), .int .i64 17, .int .i64 65536, .bool false, .int .i64 8, .int .i64 7, .int .i64 0, .string (B ([99, 117, 116] : List UInt8)), .int .i64 18, .int .i64 65536, .bool false, .int .i64 6, .int .i64 7, .int .i64 0, .string (B ([115, 101, 116] : List UInt8)), .int .i64 19, .int .i64 16, .bool false, .int .i64 10, .int .i64 0, .int .i64 0, .string (B ([114, 101, 115, 101, 116] : List UInt8)), .int .i64 20, .int .i64 16, .bool false, .int .i64 11, .int .i64 0, .int .i64 0, .string (B ([116, 101, 115, 116] : List UInt8)), .int .i64 21, .int .i64 16, .bool false, .int .i64 12, .int .i64 0, .int .i64 0, .string (B ([121, 105, 101, 108, 100] : List UInt8)), .int .i64 27, .int .i64 0, .bool false, .int .i64 0, .int .i64 0, .int .i64 0])], [⟨b17, 54, [.string (B ([] : List UInt8)), .int .i64 0, .int .i64 0, .bool false, .int .i64 0, .int .i64 0, .int .i64 0, .string (B ([] : List UInt8)), .int .i64 0, .int .i64 0, .bool false, .int .i64 0, .int .i64 0, .int .i64 0, .string (B ([] : List UInt8)), .int .i64 0, .int .i64 0, .bool false, .int .i64 0, .int .i64 0, .int .i64 0, .string (B ([] : List UInt8)), .int .i64 0, .int .i64 0, .bool false, .int .i64 0, .int .i64 0, .int .i64 0, .string (B ([] : List UInt8)), .int .i64 0, .int .i64 0, .bool false, .int .i64 0, .int .i64 0, .int .i64 0, .string (B ([] : List UInt8)), .int .i64 0, .int .i64 0, .bool false, .int .i64 0, .int .i64 0, .int .i64 0, .string (B ([] : List UInt8)), .int .i64 0, .int .i64 0, .bool false, .int .i64 0, .int .i64 0, .int .i64 0, .string (B ([] : List UInt8)), .int .i64 0, .int .i64 0, .bool false, .int .i64 0, .int .i64 0, .int .i64 0, .string (B ([] : List UInt8)), .int .i64 0, .int .i64 0, .bool false, .int .i64 0, .int .i64 0, .int .i64 0, .string (B ([] : List UInt8)), .int .i64 0, .int .i64 0, .bool false, .int .i64 0, .int .i64 0, .int .i64 0]⟩, ⟨b10, 68, [.slice x.a x.n x.c]⟩, ⟨b1, 36, [.int .i64 0, .int .i64 0, .int .i64 0]⟩]⟩) (fun _ => by kernel_rfl) (fun b17 => ?_)
      refine RV_go (hs := [0]) (c' := 0) (k' := 3) TOK [2, 3, 6, 7] ⟨[(2, .pointer (some ⟨b1, 0, none⟩)), (3, .bool false), (6, .pointer (some ⟨b10, 0, none⟩)), (7, .pointer (some ⟨b17, 0, none⟩))], [⟨b17, 54, [.string (B ([115, 101, 110, 100] : List UInt8)), .int .i64 28, .int .i64 8, .bool true, .int .i64 1, .int .i64 0, .int .i64 0, .string (B ([114, 101, 99, 118] : List UInt8)), .int .i64 29, .int .i64 8, .bool false, .int .i64 2, .int .i64 0, .int .i64 0, .string (B ([116, 114, 121] : List UInt8)), .int .i64 10, .int .i64 8, .bool false, .int .i64 2, .int .i64 3, .int .i64 0, .string (B ([112, 117, 116] : List UInt8)), .int .i64 16, .int .i64 65536, .bool true, .int .i64 4, .int .i64 0, .int .i64 5, .string (B ([108, 111, 111, 107] : List UInt8)), .int .i64 17, .int .i64 65536, .bool false, .int .i64 8, .int .i64 7, .int .i64 0, .string (B ([99, 117, 116] : List UInt8)), .int .i64 18, .int .i64 65536, .bool false, .int .i64 6, .int .i64 7, .int .i64 0, .string (B ([115, 101, 116] : List UInt8)), .int .i64 19, .int .i64 16, .bool false, .int .i64 10, .int .i64 0, .int .i64 0, .string (B ([114, 101, 115, 101, 116] : List UInt8)), .int .i64 20, .int .i64 16, .bool false, .int .i64 11, .int .i64 0, .int .i64 0, .string (B ([116, 101, 115, 116] : List UInt8)), .int .i64 21, .int .i64 16, .bool false, .int .i64 12, .int .i64 0, .int .i64 0, .string (B ([121, 105, 101, 108, 100] : List UInt8)), .int .i64 27, .int .i64 0, .bool false, .int .i64 0, .int .i64 0, .int .i64 0]⟩, ⟨b10, 68, [.slice x.a x.n x.c]⟩, ⟨b1, 36, [.int .i64 0, .int .i64 0, .int .i64 0]⟩]⟩ [b17] (by kernel_rfl) (by kernel_rfl) ?_
      refine RV_end ?_
      refine KE_then ?_
      refine VC_seq ?_
      refine VC_st ⟨[(2, .pointer (some ⟨b1, 0, none⟩)), (3, .bool false), (6, .pointer (some ⟨b10, 0, none⟩)), (7, .pointer (some ⟨b17, 0, none⟩))], [⟨b17, 54, kindsC⟩, ⟨b10, 68, [.slice x.a x.n x.c]⟩, ⟨b1, 36, [.int .i64 0, .int .i64 0, .int .i64 0]⟩]⟩ (by kernel_rfl) ?_
      refine VC_region 4 rfl ?_
      refine RV_go (hs := [0, 0]) (c' := 2) (k' := 2) TOK [2, 3, 6, 29, 30] ⟨[(2, .pointer (some ⟨b1, 0, none⟩)), (3, .bool false), (6, .pointer (some ⟨b10, 0, none⟩)), (29, .slice (some ⟨b17, 0, none⟩) 10 10), (30, .func (.func 34) #[] #[.pointer (some ⟨b10, 0, none⟩)])], [⟨b17, 54, kindsC⟩, ⟨b10, 68, [.slice x.a x.n x.c]⟩, ⟨b1, 36, [.int .i64 0, .int .i64 0, .int .i64 0]⟩]⟩ [] (by kernel_rfl) (by kernel_rfl) ?_
      refine RV_callM (c := 1) [⟨b17, 54, kindsC⟩, ⟨b10, 68, [.slice x.a x.n x.c]⟩] ([⟨b1, 36, [.int .i64 0, .int .i64 0, .int .i64 0]⟩]) (f := 33) (vs := [.slice (some ⟨b17, 0, none⟩) 10 10, .func (.func 34) #[] #[.pointer (some ⟨b10, 0, none⟩)]]) (dst := (some 31)) (by kernel_rfl) E33 rfl (fun wa hxe hp => f33 b17 b10 x p [q, r] _ wa hp (hx.ext hxe)) ?_
      rintro S20 w21 v22 _ hx23 ⟨r18, rfl, hk19, rfl⟩
      have hG := hG.ext hx23
      have hx := hx.ext hx23
      refine RV_go (hs := [0]) (c' := 0) (k' := 4) TOK [2, 3, 6, 8] ⟨[(2, .pointer (some ⟨b1, 0, none⟩)), (3, .bool false), (6, .pointer (some ⟨b10, 0, none⟩)), (8, .int .i64 r18)], [⟨b17, 54, kindsC⟩, ⟨b10, 68, [.slice x.a x.n x.c]⟩, ⟨b1, 36, [.int .i64 0, .int .i64 0, .int .i64 0]⟩]⟩ [] (by kernel_rfl) (by kernel_rfl) ?_
      refine RV_end ?_
      refine KE_then ?_
      refine VC_seq ?_
      refine VC_region 9 rfl ?_
      refine RV_go (hs := [1]) (c' := 8) (k' := 1) TOK [2, 3, 6, 8, 33] ⟨[(2, .pointer (some ⟨b1, 0, none⟩)), (3, .bool false), (6, .pointer (some ⟨b10, 0, none⟩)), (8, .int .i64 r18), (33, .slice x.a x.n x.c)], [⟨b17, 54, kindsC⟩, ⟨b10, 68, [.slice x.a x.n x.c]⟩, ⟨b1, 36, [.int .i64 0, .int .i64 0, .int .i64 0]⟩]⟩ [b10] (by kernel_rfl) (by kernel_rfl) ?_
      obtain ⟨b24, o25, ha26⟩ := hx.addr (Nat.lt_of_le_of_lt (Nat.zero_le 1) (by simp))
      refine RV_st ⟨[(2, .pointer (some ⟨b1, 0, none⟩)), (3, .bool false), (6, .pointer (some ⟨b10, 0, none⟩)), (8, .int .i64 r18), (33, .slice (some ⟨b24, o25, none⟩) x.n x.c)], [⟨b17, 54, kindsC⟩, ⟨b10, 68, [.slice (some ⟨b24, o25, none⟩) x.n x.c]⟩, ⟨b1, 36, [.int .i64 0, .int .i64 0, .int .i64 0]⟩]⟩ (by simp only [ha26]) ?_
      obtain ⟨vs_, hro27, rfl⟩ := hx.here ha26 1 (by simp)
      refine RV_run (hs := [0, 1000]) (c' := 6) (k' := 3) TOK [⟨b24, o25 + 1 * 1, [.string (B ([p, q, r][1]'(by simp)))]⟩] [2, 3, 6, 8, 35] ⟨[(2, .pointer (some ⟨b1, 0, none⟩)), (3, .bool false), (6, .pointer (some ⟨b10, 0, none⟩)), (8, .int .i64 r18), (35, .string (B ([p, q, r][1]'(by simp))))], [⟨b17, 54, kindsC⟩, ⟨b10, 68, [.slice (some ⟨b24, o25, none⟩) x.n x.c]⟩, ⟨b1, 36, [.int .i64 0, .int .i64 0, .int .i64 0]⟩]⟩ [b24, o25 + 1 * 1] [.lt 1 x.n] (by kernel_rfl) (by kernel_rfl) (ROS_cons hro27 ROS_nil) (by simp only [Conds, Cond.holds, and_true]; omega) ?_
      refine RV_call (c := 5) (f := 35) (vs := [.string (B ([p, q, r][1]'(by simp)))]) (dst := (some 36)) (by kernel_rfl) E35 (fun wa hxe hp => f35 ([p, q, r][1]'(by simp)) _ wa hp (hG.ext hxe) (by first | omega | (have := part_len hpqr; have := trim_le l; simp only [List.getElem_cons_succ, List.getElem_cons_zero]; omega))) ?_
      rintro S31 w32 v33 _ hx34 ⟨n28, ok29, rfl, hn30⟩
      have hG := hG.ext hx34
      have hx := hx.ext hx34
      refine RV_go (hs := [0, 0, 0, 0, 0]) (c' := 0) (k' := 9) TOK [2, 3, 6, 8, 9, 10] ⟨[(2, .pointer (some ⟨b1, 0, none⟩)), (3, .bool false), (6, .pointer (some ⟨b10, 0, none⟩)), (8, .int .i64 r18), (9, .int .i64 n28), (10, .bool ok29)], [⟨b17, 54, kindsC⟩, ⟨b10, 68, [.slice (some ⟨b24, o25, none⟩) x.n x.c]⟩, ⟨b1, 36, [.int .i64 0, .int .i64 0, .int .i64 0]⟩]⟩ [] (by kernel_rfl) (by kernel_rfl) ?_
      refine RV_end ?_
      refine KE_then ?_
      refine VC_seq ?_
      refine VC_region 9 rfl ?_
      refine RV_go (hs := [1]) (c' := 8) (k' := 1) TOK [2, 3, 8, 9, 10, 40] ⟨[(2, .pointer (some ⟨b1, 0, none⟩)), (3, .bool false), (8, .int .i64 r18), (9, .int .i64 n28), (10, .bool ok29), (40, .slice (some ⟨b24, o25, none⟩) x.n x.c)], [⟨b17, 54, kindsC⟩, ⟨b10, 68, [.slice (some ⟨b24, o25, none⟩) x.n x.c]⟩, ⟨b1, 36, [.int .i64 0, .int .i64 0, .int .i64 0]⟩]⟩ [b10] (by kernel_rfl) (by kernel_rfl) ?_
      obtain ⟨vs_, hro35, rfl⟩ := hx.here ha26 2 (by simp)
      refine RV_run (hs := [0, 1100]) (c' := 6) (k' := 3) TOK [⟨b24, o25 + 1 * 1, [.string (B ([p, q, r][1]'(by simp)))]⟩, ⟨b24, o25 + 2 * 1, [.string (B ([p, q, r][2]'(by simp)))]⟩] [2, 3, 8, 9, 10, 42] ⟨[(2, .pointer (some ⟨b1, 0, none⟩)), (3, .bool false), (8, .int .i64 r18), (9, .int .i64 n28), (10, .bool ok29), (42, .string (B ([p, q, r][2]'(by simp))))], [⟨b17, 54, kindsC⟩, ⟨b10, 68, [.slice (some ⟨b24, o25, none⟩) x.n x.c]⟩, ⟨b1, 36, [.int .i64 0, .int .i64 0, .int .i64 0]⟩]⟩ [b24, o25 + 2 * 1] [.lt 2 x.n] (by kernel_rfl) (by kernel_rfl) (ROS_cons (hro27.ext hx34) (ROS_cons hro35 ROS_nil)) (by simp only [Conds, Cond.holds, and_true]; omega) ?_
      refine RV_call (c := 5) (f := 35) (vs := [.string (B ([p, q, r][2]'(by simp)))]) (dst := (some 43)) (by kernel_rfl) E35 (fun wa hxe hp => f35 ([p, q, r][2]'(by simp)) _ wa hp (hG.ext hxe) (by first | omega | (have := part_len hpqr; have := trim_le l; simp only [List.getElem_cons_succ, List.getElem_cons_zero]; omega))) ?_
      rintro S39 w40 v41 _ hx42 ⟨n36, ok37, rfl, hn38⟩
      have hG := hG.ext hx42
      have hx := hx.ext hx42
      refine RV_go (hs := [0, 0, 0, 0, 0]) (c' := 0) (k' := 9) TOK [2, 3, 8, 9, 10, 11, 12] ⟨[(2, .pointer (some ⟨b1, 0, none⟩)), (3, .bool false), (8, .int .i64 r18), (9, .int .i64 n28), (10, .bool ok29), (11, .int .i64 n36), (12, .bool ok37)], [⟨b17, 54, kindsC⟩, ⟨b10, 68, [.slice (some ⟨b24, o25, none⟩) x.n x.c]⟩, ⟨b1, 36, [.int .i64 0, .int .i64 0, .int .i64 0]⟩]⟩ [] (by kernel_rfl) (by kernel_rfl) ?_
      refine RV_end ?_
      refine KE_then ?_
      refine VC_seq ?_
      refine VC_region 14 rfl ?_
      refine RV_go (hs := [0, 0, 0, 0, 0, 0, 0]) (c' := 7) (k' := 7) TOK [2, 3, 10, 12, 49, 52] ⟨[(2, .pointer (some ⟨b1, 0, none⟩)), (3, .bool false), (10, .bool ok29), (12, .bool ok37), (49, .agg #[.int .i64 r18, .int .i64 n28, .int .i64 n36]), (52, .bool (decide (r18 ≥ 0)))], [⟨b17, 54, kindsC⟩, ⟨b10, 68, [.slice (some ⟨b24, o25, none⟩) x.n x.c]⟩, ⟨b1, 36, [.int .i64 0, .int .i64 0, .int .i64 0]⟩]⟩ [] (by kernel_rfl) (by kernel_rfl) ?_
      refine RV_case (decide (r18 ≥ 0)) (fun bb => ⟨[(2, .pointer (some ⟨b1, 0, none⟩)), (3, .bool false), (10, .bool ok29), (12, .bool ok37), (49, .agg #[.int .i64 r18, .int .i64 n28, .int .i64 n36]), (52, .bool bb)], [⟨b17, 54, kindsC⟩, ⟨b10, 68, [.slice (some ⟨b24, o25, none⟩) x.n x.c]⟩, ⟨b1, 36, [.int .i64 0, .int .i64 0, .int .i64 0]⟩]⟩) (by kernel_rfl) (fun h43 => ?_) (fun h43 => ?_)
      · skip
        replace h43 := of_decide_eq_true h43
        refine RV_go (hs := [0, 0, 0]) (c' := 4) (k' := 10) TOK [2, 3, 12, 49, 55] ⟨[(2, .pointer (some ⟨b1, 0, none⟩)), (3, .bool false), (12, .bool ok37), (49, .agg #[.int .i64 r18, .int .i64 n28, .int .i64 n36]), (55, .bool ok29)], [⟨b17, 54, kindsC⟩, ⟨b10, 68, [.slice (some ⟨b24, o25, none⟩) x.n x.c]⟩, ⟨b1, 36, [.int .i64 0, .int .i64 0, .int .i64 0]⟩]⟩ [] (by kernel_rfl) (by kernel_rfl) ?_
        refine RV_case ok29 (fun bb => ⟨[(2, .pointer (some ⟨b1, 0, none⟩)), (3, .bool false), (12, .bool ok37), (49, .agg #[.int .i64 r18, .int .i64 n28, .int .i64 n36]), (55, .bool bb)], [⟨b17, 54, kindsC⟩, ⟨b10, 68, [.slice (some ⟨b24, o25, none⟩) x.n x.c]⟩, ⟨b1, 36, [.int .i64 0, .int .i64 0, .int .i64 0]⟩]⟩) (by kernel_rfl) (fun h44 => ?_) (fun h44 => ?_)
        · skip
          refine RV_go (hs := [0, 0, 2, 0]) (c' := 0) (k' := 14) TOK [2, 3] ⟨[(2, .pointer (some ⟨b1, 0, none⟩)), (3, .bool ok37)], [⟨b17, 54, kindsC⟩, ⟨b10, 68, [.slice (some ⟨b24, o25, none⟩) x.n x.c]⟩, ⟨b1, 36, [.int .i64 r18, .int .i64 n28, .int .i64 n36]⟩]⟩ [b1] (by kernel_rfl) (by kernel_rfl) ?_
          refine RV_end ?_
          refine KE_then ?_
          refine VC_ret (ls := []) TOK [] 3 false [2] [.agg #[.int .i64 r18, .int .i64 n28, .int .i64 n36], .bool ok37] [b1] ([]) rfl (by kernel_rfl) (by kernel_rfl) (fun w9 hx9 => ?_)
          show ∃ c ok, (.tuple #[.agg #[.int .i64 r18, .int .i64 n28, .int .i64 n36], .bool ok37] : Value) = .tuple #[.agg #[.int .i64 c.no, .int .i64 c.a, .int .i64 c.b], .bool ok] ∧ LineR l c ok
          exact ⟨⟨r18, n28, n36⟩, _, rfl, line_yes (by assumption) hpqr hk19 hn30 hn38 _ (by first | exact ok_1 (by omega) (by assumption : ok29 = true) | exact ok_2 (by assumption : ok29 = false) | exact ok_3 (by omega))⟩
        · skip
          refine RV_go (hs := [0, 0, 2, 0]) (c' := 0) (k' := 14) TOK [2, 3] ⟨[(2, .pointer (some ⟨b1, 0, none⟩)), (3, .bool false)], [⟨b17, 54, kindsC⟩, ⟨b10, 68, [.slice (some ⟨b24, o25, none⟩) x.n x.c]⟩, ⟨b1, 36, [.int .i64 r18, .int .i64 n28, .int .i64 n36]⟩]⟩ [b1] (by kernel_rfl) (by kernel_rfl) ?_
          refine RV_end ?_
          refine KE_then ?_
          refine VC_ret (ls := []) TOK [] 3 false [2] [.agg #[.int .i64 r18, .int .i64 n28, .int .i64 n36], .bool false] [b1] ([]) rfl (by kernel_rfl) (by kernel_rfl) (fun w9 hx9 => ?_)
          show ∃ c ok, (.tuple #[.agg #[.int .i64 r18, .int .i64 n28, .int .i64 n36], .bool false] : Value) = .tuple #[.agg #[.int .i64 c.no, .int .i64 c.a, .int .i64 c.b], .bool ok] ∧ LineR l c ok
          exact ⟨⟨r18, n28, n36⟩, _, rfl, line_yes (by assumption) hpqr hk19 hn30 hn38 _ (by first | exact ok_1 (by omega) (by assumption : ok29 = true) | exact ok_2 (by assumption : ok29 = false) | exact ok_3 (by omega))⟩
      · skip
        replace h43 := of_decide_eq_false h43
        refine RV_go (hs := [0, 0, 0, 0, 0, 2, 0]) (c' := 0) (k' := 14) TOK [2, 3] ⟨[(2, .pointer (some ⟨b1, 0, none⟩)), (3, .bool false)], [⟨b17, 54, kindsC⟩, ⟨b10, 68, [.slice (some ⟨b24, o25, none⟩) x.n x.c]⟩, ⟨b1, 36, [.int .i64 r18, .int .i64 n28, .int .i64 n36]⟩]⟩ [b1] (by kernel_rfl) (by kernel_rfl) ?_
        refine RV_end ?_
        refine KE_then ?_
        refine VC_ret (ls := []) TOK [] 3 false [2] [.agg #[.int .i64 r18, .int .i64 n28, .int .i64 n36], .bool false] [b1] ([]) rfl (by kernel_rfl) (by kernel_rfl) (fun w9 hx9 => ?_)
        show ∃ c ok, (.tuple #[.agg #[.int .i64 r18, .int .i64 n28, .int .i64 n36], .bool false] : Value) = .tuple #[.agg #[.int .i64 c.no, .int .i64 c.a, .int .i64 c.b], .bool ok] ∧ LineR l c ok
        exact ⟨⟨r18, n28, n36⟩, _, rfl, line_yes (by assumption) hpqr hk19 hn30 hn38 _ (by first | exact ok_1 (by omega) (by assumption : ok29 = true) | exact ok_2 (by assumption : ok29 = false) | exact ok_3 (by omega))⟩

end Go.YtmfkmoecbnghhaaDoor
