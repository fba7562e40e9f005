/- Contracts of functions, over the symbolic executor: each comes to what its theorem says. Written by gen.py, a program of this work. -/
import Derived.Test.YtmfkmoecbnghhaaDoorA15
import Derived.Test.YtmfkmoecbnghhaaDoorEngV
namespace Go.YtmfkmoecbnghhaaDoor
open Go Eng Go.Proofs Law Go.RowKit
set_option linter.unusedVariables false
set_option linter.unusedSimpArgs false

def c2 : List Sc := [⟨0, 3, 77⟩, ⟨9, 0, 0⟩]
theorem pr2 : printL c2 = ([115, 101, 110, 100, 32, 51, 32, 55, 55, 10, 121, 105, 101, 108, 100, 32, 48, 32, 48, 10] : List UInt8) := by
  simp [c2, printL, scL, wordL, wordsL, Lib.itoa, Lib.decDigits]
theorem wr2 : ∀ c ∈ c2, Wr c := by
  intro c hc
  simp only [c2, List.mem_cons, List.not_mem_nil, or_false] at hc
  rcases hc with rfl | rfl <;> simp only [Wr, Rg] <;> omega
theorem sp2 : Split ([115, 101, 110, 100, 32, 51, 32, 55, 55, 10, 121, 105, 101, 108, 100, 32, 48, 32, 48, 10] : List UInt8) c2 [] := pr2 ▸ Split.print wr2

/-- What a text's reading comes to, in two cases. -/
def PR2 (l : List UInt8) (S : Nat → Prop) (w : World) (v : Value) : Prop :=
  (∃ cs, ∃ x : Sl, Split l cs [] ∧ v = .tuple #[.slice x.a x.n x.c, .int .i64 (l.length : Int), .int .i64 0] ∧ RSl scE S w x cs) ∨ (∃ cs r, Split l cs r ∧ r ≠ [] ∧ v = .tuple #[.slice none 0 0, .int .i64 ((printL cs).length : Int), .int .i64 1])
theorem PR2.of {l : List UInt8} {S : Nat → Prop} {w : World} {v : Value} (h : ParseR l S w v) : PR2 l S w v := by
  obtain ⟨cs, r, h1, ⟨rfl, x, h2, h3⟩ | ⟨h2, h3⟩⟩ := h
  · exact .inl ⟨cs, x, h1, h2, h3⟩
  · exact .inr ⟨cs, r, h1, h2, h3⟩
theorem c9 (l : List UInt8) (S : Nat → Prop) (w : World) (hP : Pre S w []) (hG : Glob S w) (hl : l.length ≤ 1000000) : Calls Tryd.prog 9 #[.string (B l)] w (Ret S w [] fun v ls S w => PR2 l S w v) :=
  Calls.retMono (f9 l S w hP hG hl) fun _ _ _ _ h => .of h
theorem c10 (l : List UInt8) (S : Nat → Prop) (w : World) (hP : Pre S w []) (hl : l.length ≤ 1000000) : Calls Tryd.prog 10 #[.string (B l)] w (Ret S w [] fun v ls S w => PR2 l S w v) :=
  Calls.retMono (f10 l S w hP hl) fun _ _ _ _ h => .of h

theorem f28  (S : Nat → Prop) (w : World) (hP : Pre S w []) :
    Calls Tryd.prog 28 #[.agg #[.int .i64 0, .int .i64 3, .int .i64 77]] w (Ret S w [] fun v_ ls_ S_ w_ => v_ = .tuple #[.agg #[.string (B ([115, 101, 110, 100] : List UInt8)), .int .i64 28, .int .i64 8, .bool true, .int .i64 1, .int .i64 0, .int .i64 0], .bool true]) := by
  refine Calls_of_VC (ls := []) ⟨[(0, .agg #[.int .i64 0, .int .i64 3, .int .i64 77])], []⟩ Tryd.func28 rfl (by kernel_rfl) (by kernel_rfl) hP ?_
  refine VC_seq ?_
  refine VC_region 3 rfl ?_
  refine RV_new (c := 2) TOK [1] (fun b1 => ⟨[(1, .pointer (some ⟨b1, 0, none⟩))], [⟨b1, 36, [.int .i64 0, .int .i64 3, .int .i64 77]⟩]⟩) (fun _ => by kernel_rfl) (fun b1 => ?_)
  refine RV_new (c := 1) TOK [1, 2] (fun b2 => ⟨[(1, .pointer (some ⟨b1, 0, none⟩)), (2, .pointer (some ⟨b2, 0, none⟩))], [⟨b2, 53, [.string (B ([] : List UInt8)), .int .i64 0, .int .i64 0, .bool false, .int .i64 0, .int .i64 0, .int .i64 0]⟩, ⟨b1, 36, [.int .i64 0, .int .i64 3, .int .i64 77]⟩]⟩) (fun _ => by kernel_rfl) (fun b2 => ?_)
  refine RV_go (hs := [0]) (c' := 0) (k' := 3) TOK [1, 2, 3] ⟨[(1, .pointer (some ⟨b1, 0, none⟩)), (2, .pointer (some ⟨b2, 0, none⟩)), (3, .bool false)], [⟨b2, 53, [.string (B ([] : List UInt8)), .int .i64 0, .int .i64 0, .bool false, .int .i64 0, .int .i64 0, .int .i64 0]⟩, ⟨b1, 36, [.int .i64 0, .int .i64 3, .int .i64 77]⟩]⟩ [] (by kernel_rfl) (by kernel_rfl) ?_
  refine RV_end ?_
  refine KE_then ?_
  refine VC_seq ?_
  refine VC_region 3 rfl ?_
  refine RV_call (c := 2) (f := 22) (vs := []) (dst := (some 6)) (by kernel_rfl) E22 (fun wa hxe hp => f22 _ wa hp) ?_
  rintro S3 w4 v5 _ hx6 rfl
  refine RV_new (c := 1) TOK [1, 2, 3, 4, 6] (fun b7 => ⟨[(1, .pointer (some ⟨b1, 0, none⟩)), (2, .pointer (some ⟨b2, 0, none⟩)), (3, .bool false), (4, .pointer (some ⟨b7, 0, none⟩)), (6, .agg #[.string (B ([115, 101, 110, 100] : List UInt8)), .int .i64 28, .int .i64 8, .bool true, .int .i64 1, .int .i64 0, .int .i64 0, .string (B ([114, 101, 99, 118] : List UInt8)), .int .i64 29, .int .i64 8, .bool false, .int .i64 2, .int .i64 0, .int .i64 0, .string (B ([116, 114, 121] : List UInt8)), .int .i64 10, .int .i64 8, .bool false, .int .i64 2, .int .i64 3, .int .i64 0, .string (B ([112, 117, 116] : List UInt8)), .int .i64 16, .int .i64 65536, .bool true, .int .i64 4, .int .i64 0, .int .i64 5, .string (B ([108, 111, 111, 107] : List UInt8)), .int .i64 17, .int .i64 65536, .bool false, .int .i64 8, .int .i64 7, .int .i64 0, .string (B ([99, 117, 116] : List UInt8)), .int .i64 18, .int .i64 65536, .bool false, .int .i64 6, .int .i64 7, .int .i64 0, .string (B ([115, 101, 116] : List UInt8)), .int .i64 19, .int .i64 16, .bool false, .int .i64 10, .int .i64 0, .int .i64 0, .string (B ([114, 101, 115, 101, 116] : List UInt8)), .int .i64 20, .int .i64 16, .bool false, .int .i64 11, .int .i64 0, .int .i64 0, .string (B ([116, 101, 115, 116] : List UInt8)), .int .i64 21, .int .i64 16, .bool false, .int .i64 12, .int .i64 0, .int .i64 0, .string (B ([121, 105, 101, 108, 100] : List UInt8)), .int .i64 27, .int .i64 0, .bool false, .int .i64 0, .int .i64 0, .int .i64 0])], [⟨b7, 54, [.string (B ([] : List UInt8)), .int .i64 0, .int .i64 0, .bool false, .int .i64 0, .int .i64 0, .int .i64 0, .string (B ([] : List UInt8)), .int .i64 0, .int .i64 0, .bool false, .int .i64 0, .int .i64 0, .int .i64 0, .string (B ([] : List UInt8)), .int .i64 0, .int .i64 0, .bool false, .int .i64 0, .int .i64 0, .int .i64 0, .string (B ([] : List UInt8)), .int .i64 0, .int .i64 0, .bool false, .int .i64 0, .int .i64 0, .int .i64 0, .string (B ([] : List UInt8)), .int .i64 0, .int .i64 0, .bool false, .int .i64 0, .int .i64 0, .int .i64 0, .string (B ([] : List UInt8)), .int .i64 0, .int .i64 0, .bool false, .int .i64 0, .int .i64 0, .int .i64 0, .string (B ([] : List UInt8)), .int .i64 0, .int .i64 0, .bool false, .int .i64 0, .int .i64 0, .int .i64 0, .string (B ([] : List UInt8)), .int .i64 0, .int .i64 0, .bool false, .int .i64 0, .int .i64 0, .int .i64 0, .string (B ([] : List UInt8)), .int .i64 0, .int .i64 0, .bool false, .int .i64 0, .int .i64 0, .int .i64 0, .string (B ([] : List UInt8)), .int .i64 0, .int .i64 0, .bool false, .int .i64 0, .int .i64 0, .int .i64 0]⟩, ⟨b2, 53, [.string (B ([] : List UInt8)), .int .i64 0, .int .i64 0, .bool false, .int .i64 0, .int .i64 0, .int .i64 0]⟩, ⟨b1, 36, [.int .i64 0, .int .i64 3, .int .i64 77]⟩]⟩) (fun _ => by kernel_rfl) (fun b7 => ?_)
  refine RV_go (hs := [0]) (c' := 0) (k' := 3) TOK [1, 2, 3, 4] ⟨[(1, .pointer (some ⟨b1, 0, none⟩)), (2, .pointer (some ⟨b2, 0, none⟩)), (3, .bool false), (4, .pointer (some ⟨b7, 0, none⟩))], [⟨b7, 54, [.string (B ([115, 101, 110, 100] : List UInt8)), .int .i64 28, .int .i64 8, .bool true, .int .i64 1, .int .i64 0, .int .i64 0, .string (B ([114, 101, 99, 118] : List UInt8)), .int .i64 29, .int .i64 8, .bool false, .int .i64 2, .int .i64 0, .int .i64 0, .string (B ([116, 114, 121] : List UInt8)), .int .i64 10, .int .i64 8, .bool false, .int .i64 2, .int .i64 3, .int .i64 0, .string (B ([112, 117, 116] : List UInt8)), .int .i64 16, .int .i64 65536, .bool true, .int .i64 4, .int .i64 0, .int .i64 5, .string (B ([108, 111, 111, 107] : List UInt8)), .int .i64 17, .int .i64 65536, .bool false, .int .i64 8, .int .i64 7, .int .i64 0, .string (B ([99, 117, 116] : List UInt8)), .int .i64 18, .int .i64 65536, .bool false, .int .i64 6, .int .i64 7, .int .i64 0, .string (B ([115, 101, 116] : List UInt8)), .int .i64 19, .int .i64 16, .bool false, .int .i64 10, .int .i64 0, .int .i64 0, .string (B ([114, 101, 115, 101, 116] : List UInt8)), .int .i64 20, .int .i64 16, .bool false, .int .i64 11, .int .i64 0, .int .i64 0, .string (B ([116, 101, 115, 116] : List UInt8)), .int .i64 21, .int .i64 16, .bool false, .int .i64 12, .int .i64 0, .int .i64 0, .string (B ([121, 105, 101, 108, 100] : List UInt8)), .int .i64 27, .int .i64 0, .bool false, .int .i64 0, .int .i64 0, .int .i64 0]⟩, ⟨b2, 53, [.string (B ([] : List UInt8)), .int .i64 0, .int .i64 0, .bool false, .int .i64 0, .int .i64 0, .int .i64 0]⟩, ⟨b1, 36, [.int .i64 0, .int .i64 3, .int .i64 77]⟩]⟩ [b7] (by kernel_rfl) (by kernel_rfl) ?_
  refine RV_end ?_
  refine KE_then ?_
  refine VC_seq ?_
  refine VC_seq ?_
  refine VC_st ⟨[(1, .pointer (some ⟨b1, 0, none⟩)), (2, .pointer (some ⟨b2, 0, none⟩)), (3, .bool false), (4, .pointer (some ⟨b7, 0, none⟩))], [⟨b7, 54, kindsC⟩, ⟨b2, 53, [.string (B ([] : List UInt8)), .int .i64 0, .int .i64 0, .bool false, .int .i64 0, .int .i64 0, .int .i64 0]⟩, ⟨b1, 36, [.int .i64 0, .int .i64 3, .int .i64 77]⟩]⟩ (by kernel_rfl) ?_
  refine VC_region 8 rfl ?_
  refine RV_go (hs := [0, 2, 0]) (c' := 5) (k' := 3) TOK [1, 2, 3, 4, 9] ⟨[(1, .pointer (some ⟨b1, 0, none⟩)), (2, .pointer (some ⟨b2, 0, none⟩)), (3, .bool false), (4, .pointer (some ⟨b7, 0, none⟩)), (9, .bool (decide (0 < 0)))], [⟨b7, 54, kindsC⟩, ⟨b2, 53, [.string (B ([] : List UInt8)), .int .i64 0, .int .i64 0, .bool false, .int .i64 0, .int .i64 0, .int .i64 0]⟩, ⟨b1, 36, [.int .i64 0, .int .i64 3, .int .i64 77]⟩]⟩ [b1] (by kernel_rfl) (by kernel_rfl) ?_
  refine RV_st ⟨[(1, .pointer (some ⟨b1, 0, none⟩)), (2, .pointer (some ⟨b2, 0, none⟩)), (3, .bool false), (4, .pointer (some ⟨b7, 0, none⟩)), (9, .bool false)], [⟨b7, 54, kindsC⟩, ⟨b2, 53, [.string (B ([] : List UInt8)), .int .i64 0, .int .i64 0, .bool false, .int .i64 0, .int .i64 0, .int .i64 0]⟩, ⟨b1, 36, [.int .i64 0, .int .i64 3, .int .i64 77]⟩]⟩ (by rw [(show (decide (0 < 0)) = false from by decide)]) ?_
  refine RV_go (hs := [0, 0, 2, 0]) (c' := 1) (k' := 7) TOK [1, 2, 3, 4, 10, 13] ⟨[(1, .pointer (some ⟨b1, 0, none⟩)), (2, .pointer (some ⟨b2, 0, none⟩)), (3, .bool false), (4, .pointer (some ⟨b7, 0, none⟩)), (10, .bool false), (13, .bool (decide (0 ≥ 10)))], [⟨b7, 54, kindsC⟩, ⟨b2, 53, [.string (B ([] : List UInt8)), .int .i64 0, .int .i64 0, .bool false, .int .i64 0, .int .i64 0, .int .i64 0]⟩, ⟨b1, 36, [.int .i64 0, .int .i64 3, .int .i64 77]⟩]⟩ [b1] (by kernel_rfl) (by kernel_rfl) ?_
  refine RV_st ⟨[(1, .pointer (some ⟨b1, 0, none⟩)), (2, .pointer (some ⟨b2, 0, none⟩)), (3, .bool false), (4, .pointer (some ⟨b7, 0, none⟩)), (10, .bool false), (13, .bool false)], [⟨b7, 54, kindsC⟩, ⟨b2, 53, [.string (B ([] : List UInt8)), .int .i64 0, .int .i64 0, .bool false, .int .i64 0, .int .i64 0, .int .i64 0]⟩, ⟨b1, 36, [.int .i64 0, .int .i64 3, .int .i64 77]⟩]⟩ (by rw [(show (decide (0 ≥ 10)) = false from by decide)]) ?_
  refine RV_go (hs := [0]) (c' := 0) (k' := 8) TOK [1, 2, 3, 4, 14] ⟨[(1, .pointer (some ⟨b1, 0, none⟩)), (2, .pointer (some ⟨b2, 0, none⟩)), (3, .bool false), (4, .pointer (some ⟨b7, 0, none⟩)), (14, .bool false)], [⟨b7, 54, kindsC⟩, ⟨b2, 53, [.string (B ([] : List UInt8)), .int .i64 0, .int .i64 0, .bool false, .int .i64 0, .int .i64 0, .int .i64 0]⟩, ⟨b1, 36, [.int .i64 0, .int .i64 3, .int .i64 77]⟩]⟩ [] (by kernel_rfl) (by kernel_rfl) ?_
  refine RV_end ?_
  refine KE_then ?_
  refine VC_false (by kernel_rfl) ?_
  refine VC_skip ?_
  refine KE_then ?_
  refine VC_seq ?_
  refine VC_region 6 rfl ?_
  refine RV_run (hs := [0, 2, 0]) (c' := 3) (k' := 3) TOK [] [1, 2, 3, 18] ⟨[(1, .pointer (some ⟨b1, 0, none⟩)), (2, .pointer (some ⟨b2, 0, none⟩)), (3, .bool false), (18, .pointer (some ⟨b7, 0, none⟩))], [⟨b7, 54, kindsC⟩, ⟨b2, 53, [.string (B ([] : List UInt8)), .int .i64 0, .int .i64 0, .bool false, .int .i64 0, .int .i64 0, .int .i64 0]⟩, ⟨b1, 36, [.int .i64 0, .int .i64 3, .int .i64 77]⟩]⟩ [b1] [.lt 0 10] (by kernel_rfl) (by kernel_rfl) ROS_nil (by simp only [Conds, Cond.holds, and_true]; omega) ?_
  refine RV_step (c := 2) TOK 1000 [⟨b7, 0, [.string (B ([115, 101, 110, 100] : List UInt8)), .int .i64 28, .int .i64 8, .bool true, .int .i64 1, .int .i64 0, .int .i64 0]⟩] [1, 2, 3, 19] ⟨[(1, .pointer (some ⟨b1, 0, none⟩)), (2, .pointer (some ⟨b2, 0, none⟩)), (3, .bool false), (19, .agg #[.string (B ([115, 101, 110, 100] : List UInt8)), .int .i64 28, .int .i64 8, .bool true, .int .i64 1, .int .i64 0, .int .i64 0])], [⟨b7, 54, kindsC⟩, ⟨b2, 53, [.string (B ([] : List UInt8)), .int .i64 0, .int .i64 0, .bool false, .int .i64 0, .int .i64 0, .int .i64 0]⟩, ⟨b1, 36, [.int .i64 0, .int .i64 3, .int .i64 77]⟩]⟩ [b7, 0] [] (by kernel_rfl) (ROL_own ⟨b7, 54, kindsC⟩ (by simp) (by kernel_rfl) ROL_nil) trivial ?_
  refine RV_new (c := 1) TOK [1, 2, 3, 5, 19] (fun b8 => ⟨[(1, .pointer (some ⟨b1, 0, none⟩)), (2, .pointer (some ⟨b2, 0, none⟩)), (3, .bool false), (5, .pointer (some ⟨b8, 0, none⟩)), (19, .agg #[.string (B ([115, 101, 110, 100] : List UInt8)), .int .i64 28, .int .i64 8, .bool true, .int .i64 1, .int .i64 0, .int .i64 0])], [⟨b8, 53, [.string (B ([] : List UInt8)), .int .i64 0, .int .i64 0, .bool false, .int .i64 0, .int .i64 0, .int .i64 0]⟩, ⟨b7, 54, kindsC⟩, ⟨b2, 53, [.string (B ([] : List UInt8)), .int .i64 0, .int .i64 0, .bool false, .int .i64 0, .int .i64 0, .int .i64 0]⟩, ⟨b1, 36, [.int .i64 0, .int .i64 3, .int .i64 77]⟩]⟩) (fun _ => by kernel_rfl) (fun b8 => ?_)
  refine RV_go (hs := [0]) (c' := 0) (k' := 6) TOK [1, 2, 3, 5] ⟨[(1, .pointer (some ⟨b1, 0, none⟩)), (2, .pointer (some ⟨b2, 0, none⟩)), (3, .bool false), (5, .pointer (some ⟨b8, 0, none⟩))], [⟨b8, 53, [.string (B ([115, 101, 110, 100] : List UInt8)), .int .i64 28, .int .i64 8, .bool true, .int .i64 1, .int .i64 0, .int .i64 0]⟩, ⟨b7, 54, kindsC⟩, ⟨b2, 53, [.string (B ([] : List UInt8)), .int .i64 0, .int .i64 0, .bool false, .int .i64 0, .int .i64 0, .int .i64 0]⟩, ⟨b1, 36, [.int .i64 0, .int .i64 3, .int .i64 77]⟩]⟩ [b8] (by kernel_rfl) (by kernel_rfl) ?_
  refine RV_end ?_
  refine KE_then ?_
  refine VC_seq ?_
  refine VC_draw MIX [⟨b8, 53, [.string (B ([115, 101, 110, 100] : List UInt8)), .int .i64 28, .int .i64 8, .bool true, .int .i64 1, .int .i64 0, .int .i64 0]⟩, ⟨b7, 54, kindsC⟩, ⟨b1, 36, [.int .i64 0, .int .i64 3, .int .i64 77]⟩] 33 rfl ?_
  refine RVd_take (fuel' := 29) TOK [] [(0, 0), (1, 0), (2, 0), (3, 0)] [1, 2, 3, 5, 20, 23] [0, 1, 3] #[true, true, true, true, false, false, false, false, false, false, false, false, false, false, false, false, false, false, false, false, false, false, false, false, false, false, false, false, false, false, false, false, false] [(1, .pointer (some ⟨b1, 0, none⟩)), (2, .pointer (some ⟨b2, 0, none⟩)), (3, .bool false), (5, .pointer (some ⟨b8, 0, none⟩)), (20, .agg #[.string (B ([115, 101, 110, 100] : List UInt8)), .int .i64 28, .int .i64 8, .bool true, .int .i64 1, .int .i64 0, .int .i64 0]), (23, .bool (8 == 0))] [b8, b8] [] (by kernel_rfl) (by kernel_rfl) (by kernel_rfl) (by kernel_rfl) ROL_nil trivial ?_
  refine RVd_st ⟨[(1, .pointer (some ⟨b1, 0, none⟩)), (2, .pointer (some ⟨b2, 0, none⟩)), (3, .bool false), (5, .pointer (some ⟨b8, 0, none⟩)), (20, .agg #[.string (B ([115, 101, 110, 100] : List UInt8)), .int .i64 28, .int .i64 8, .bool true, .int .i64 1, .int .i64 0, .int .i64 0]), (23, .bool false)], [⟨b8, 53, [.string (B ([115, 101, 110, 100] : List UInt8)), .int .i64 28, .int .i64 8, .bool true, .int .i64 1, .int .i64 0, .int .i64 0]⟩, ⟨b7, 54, kindsC⟩, ⟨b2, 53, [.string (B ([] : List UInt8)), .int .i64 0, .int .i64 0, .bool false, .int .i64 0, .int .i64 0, .int .i64 0]⟩, ⟨b1, 36, [.int .i64 0, .int .i64 3, .int .i64 77]⟩]⟩ (by rw [(show (8 == 0) = false from by decide)]) ?_
  refine RVd_take (fuel' := 25) TOK [] [(4, 0), (5, 0), (6, 2), (7, 0)] [1, 2, 3, 5, 20, 24, 27] [0, 1, 3] #[true, true, true, true, true, true, true, true, false, false, false, false, false, false, false, false, false, false, false, false, false, false, false, false, false, false, false, false, false, false, false, false, false] [(1, .pointer (some ⟨b1, 0, none⟩)), (2, .pointer (some ⟨b2, 0, none⟩)), (3, .bool false), (5, .pointer (some ⟨b8, 0, none⟩)), (20, .agg #[.string (B ([115, 101, 110, 100] : List UInt8)), .int .i64 28, .int .i64 8, .bool true, .int .i64 1, .int .i64 0, .int .i64 0]), (24, .bool false), (27, .bool (decide (3 ≥ 0)))] [b1] [] (by kernel_rfl) (by kernel_rfl) (by kernel_rfl) (by kernel_rfl) ROL_nil trivial ?_
  refine RVd_st ⟨[(1, .pointer (some ⟨b1, 0, none⟩)), (2, .pointer (some ⟨b2, 0, none⟩)), (3, .bool false), (5, .pointer (some ⟨b8, 0, none⟩)), (20, .agg #[.string (B ([115, 101, 110, 100] : List UInt8)), .int .i64 28, .int .i64 8, .bool true, .int .i64 1, .int .i64 0, .int .i64 0]), (24, .bool false), (27, .bool true)], [⟨b8, 53, [.string (B ([115, 101, 110, 100] : List UInt8)), .int .i64 28, .int .i64 8, .bool true, .int .i64 1, .int .i64 0, .int .i64 0]⟩, ⟨b7, 54, kindsC⟩, ⟨b2, 53, [.string (B ([] : List UInt8)), .int .i64 0, .int .i64 0, .bool false, .int .i64 0, .int .i64 0, .int .i64 0]⟩, ⟨b1, 36, [.int .i64 0, .int .i64 3, .int .i64 77]⟩]⟩ (by rw [(show (decide (3 ≥ 0)) = true from by decide)]) ?_
  refine RVd_take (fuel' := 19) TOK [] [(8, 0), (9, 0), (10, 2), (11, 0), (12, 0), (13, 0)] [1, 2, 3, 5, 20, 24, 28, 33] [0, 1, 3] #[true, true, true, true, true, true, true, true, true, true, true, true, true, true, false, false, false, false, false, false, false, false, false, false, false, false, false, false, false, false, false, false, false] [(1, .pointer (some ⟨b1, 0, none⟩)), (2, .pointer (some ⟨b2, 0, none⟩)), (3, .bool false), (5, .pointer (some ⟨b8, 0, none⟩)), (20, .agg #[.string (B ([115, 101, 110, 100] : List UInt8)), .int .i64 28, .int .i64 8, .bool true, .int .i64 1, .int .i64 0, .int .i64 0]), (24, .bool false), (28, .bool true), (33, .bool (decide (3 < 8)))] [b1, b8] [] (by kernel_rfl) (by kernel_rfl) (by kernel_rfl) (by kernel_rfl) ROL_nil trivial ?_
  refine RVd_st ⟨[(1, .pointer (some ⟨b1, 0, none⟩)), (2, .pointer (some ⟨b2, 0, none⟩)), (3, .bool false), (5, .pointer (some ⟨b8, 0, none⟩)), (20, .agg #[.string (B ([115, 101, 110, 100] : List UInt8)), .int .i64 28, .int .i64 8, .bool true, .int .i64 1, .int .i64 0, .int .i64 0]), (24, .bool false), (28, .bool true), (33, .bool true)], [⟨b8, 53, [.string (B ([115, 101, 110, 100] : List UInt8)), .int .i64 28, .int .i64 8, .bool true, .int .i64 1, .int .i64 0, .int .i64 0]⟩, ⟨b7, 54, kindsC⟩, ⟨b2, 53, [.string (B ([] : List UInt8)), .int .i64 0, .int .i64 0, .bool false, .int .i64 0, .int .i64 0, .int .i64 0]⟩, ⟨b1, 36, [.int .i64 0, .int .i64 3, .int .i64 77]⟩]⟩ (by rw [(show (decide (3 < 8)) = true from by decide)]) ?_
  refine RVd_take (fuel' := 9) TOK [] [(14, 0), (15, 0), (16, 0), (17, 0), (18, 0), (19, 0), (20, 0), (21, 0), (22, 2), (23, 0)] [1, 2, 3, 20, 36, 40, 43] [0, 1, 3] #[true, true, true, true, true, true, true, true, true, true, true, true, true, true, true, true, true, true, true, true, true, true, true, true, false, false, false, false, false, false, false, false, false] [(1, .pointer (some ⟨b1, 0, none⟩)), (2, .pointer (some ⟨b2, 0, none⟩)), (3, .bool false), (20, .agg #[.string (B ([115, 101, 110, 100] : List UInt8)), .int .i64 28, .int .i64 8, .bool true, .int .i64 1, .int .i64 0, .int .i64 0]), (36, .bool true), (40, .bool false), (43, .bool (decide (77 ≥ (-1099511627776))))] [b8, b1] [] (by kernel_rfl) (by kernel_rfl) (by kernel_rfl) (by kernel_rfl) ROL_nil trivial ?_
  refine RVd_st ⟨[(1, .pointer (some ⟨b1, 0, none⟩)), (2, .pointer (some ⟨b2, 0, none⟩)), (3, .bool false), (20, .agg #[.string (B ([115, 101, 110, 100] : List UInt8)), .int .i64 28, .int .i64 8, .bool true, .int .i64 1, .int .i64 0, .int .i64 0]), (36, .bool true), (40, .bool false), (43, .bool true)], [⟨b8, 53, [.string (B ([115, 101, 110, 100] : List UInt8)), .int .i64 28, .int .i64 8, .bool true, .int .i64 1, .int .i64 0, .int .i64 0]⟩, ⟨b7, 54, kindsC⟩, ⟨b2, 53, [.string (B ([] : List UInt8)), .int .i64 0, .int .i64 0, .bool false, .int .i64 0, .int .i64 0, .int .i64 0]⟩, ⟨b1, 36, [.int .i64 0, .int .i64 3, .int .i64 77]⟩]⟩ (by rw [(show (decide (77 ≥ (-1099511627776))) = true from by decide)]) ?_
  refine RVd_take (fuel' := 5) TOK [] [(24, 0), (25, 0), (26, 2), (27, 0)] [2, 3, 20, 36, 40, 44, 47] [0, 1, 3] #[true, true, true, true, true, true, true, true, true, true, true, true, true, true, true, true, true, true, true, true, true, true, true, true, true, true, true, true, false, false, false, false, false] [(2, .pointer (some ⟨b2, 0, none⟩)), (3, .bool false), (20, .agg #[.string (B ([115, 101, 110, 100] : List UInt8)), .int .i64 28, .int .i64 8, .bool true, .int .i64 1, .int .i64 0, .int .i64 0]), (36, .bool true), (40, .bool false), (44, .bool true), (47, .bool (decide (77 ≤ 1099511627776)))] [b1] [] (by kernel_rfl) (by kernel_rfl) (by kernel_rfl) (by kernel_rfl) ROL_nil trivial ?_
  refine RVd_st ⟨[(2, .pointer (some ⟨b2, 0, none⟩)), (3, .bool false), (20, .agg #[.string (B ([115, 101, 110, 100] : List UInt8)), .int .i64 28, .int .i64 8, .bool true, .int .i64 1, .int .i64 0, .int .i64 0]), (36, .bool true), (40, .bool false), (44, .bool true), (47, .bool true)], [⟨b8, 53, [.string (B ([115, 101, 110, 100] : List UInt8)), .int .i64 28, .int .i64 8, .bool true, .int .i64 1, .int .i64 0, .int .i64 0]⟩, ⟨b7, 54, kindsC⟩, ⟨b2, 53, [.string (B ([] : List UInt8)), .int .i64 0, .int .i64 0, .bool false, .int .i64 0, .int .i64 0, .int .i64 0]⟩, ⟨b1, 36, [.int .i64 0, .int .i64 3, .int .i64 77]⟩]⟩ (by rw [(show (decide (77 ≤ 1099511627776)) = true from by decide)]) ?_
  refine RVd_take (fuel' := 2) TOK [] [(28, 0), (29, 0), (30, 0)] [2, 3, 20, 50] [0, 1, 3] #[true, true, true, true, true, true, true, true, true, true, true, true, true, true, true, true, true, true, true, true, true, true, true, true, true, true, true, true, true, true, true, false, false] [(2, .pointer (some ⟨b2, 0, none⟩)), (3, .bool false), (20, .agg #[.string (B ([115, 101, 110, 100] : List UInt8)), .int .i64 28, .int .i64 8, .bool true, .int .i64 1, .int .i64 0, .int .i64 0]), (50, .bool true)] [] [] (by kernel_rfl) (by kernel_rfl) (by kernel_rfl) (by kernel_rfl) ROL_nil trivial ?_
  refine RVd_step (fuel := 1) TOK 31 2 [2, 3, 50] [0, 1, 3] #[true, true, true, true, true, true, true, true, true, true, true, true, true, true, true, true, true, true, true, true, true, true, true, true, true, true, true, true, true, true, true, true, false] ⟨[(2, .pointer (some ⟨b2, 0, none⟩)), (3, .bool false), (50, .bool true)], [⟨b8, 53, [.string (B ([115, 101, 110, 100] : List UInt8)), .int .i64 28, .int .i64 8, .bool true, .int .i64 1, .int .i64 0, .int .i64 0]⟩, ⟨b7, 54, kindsC⟩, ⟨b2, 53, [.string (B ([115, 101, 110, 100] : List UInt8)), .int .i64 28, .int .i64 8, .bool true, .int .i64 1, .int .i64 0, .int .i64 0]⟩, ⟨b1, 36, [.int .i64 0, .int .i64 3, .int .i64 77]⟩]⟩ [b2] (by kernel_rfl) (by kernel_rfl) (by kernel_rfl) (by kernel_rfl) ?_
  refine RVd_take (fuel' := 0) TOK [] [(32, 0)] [2, 3] [0, 1, 3] #[true, true, true, true, true, true, true, true, true, true, true, true, true, true, true, true, true, true, true, true, true, true, true, true, true, true, true, true, true, true, true, true, true] [(2, .pointer (some ⟨b2, 0, none⟩)), (3, .bool true)] [] [] (by kernel_rfl) (by kernel_rfl) (by kernel_rfl) (by kernel_rfl) ROL_nil trivial ?_
  refine RVd_end (by kernel_rfl) ?_
  refine KE_then ?_
  refine VC_ret (ls := []) TOK [] 4 false [2] [.agg #[.string (B ([115, 101, 110, 100] : List UInt8)), .int .i64 28, .int .i64 8, .bool true, .int .i64 1, .int .i64 0, .int .i64 0], .bool true] [b2] ([]) rfl (by kernel_rfl) (by kernel_rfl) (fun w9 hx9 => ?_)
  show (.tuple #[.agg #[.string (B ([115, 101, 110, 100] : List UInt8)), .int .i64 28, .int .i64 8, .bool true, .int .i64 1, .int .i64 0, .int .i64 0], .bool true] : Value) = .tuple #[.agg #[.string (B ([115, 101, 110, 100] : List UInt8)), .int .i64 28, .int .i64 8, .bool true, .int .i64 1, .int .i64 0, .int .i64 0], .bool true]
  rfl

theorem f16  (S : Nat → Prop) (w : World) (hP : Pre S w []) :
    Calls Tryd.prog 16 #[.agg #[.int .i64 0, .int .i64 3, .int .i64 77], .int .i64 5, .int .i64 1] w (Ret S w [] fun v_ ls_ S_ w_ => v_ = .tuple #[.int .i64 28, .agg #[.int .i64 3, .int .i64 77, .int .i64 1], .int .i64 0]) := by
  refine Calls_of_VC (ls := []) ⟨[(0, .agg #[.int .i64 0, .int .i64 3, .int .i64 77]), (1, .int .i64 5), (2, .int .i64 1)], []⟩ Tryd.func16 rfl (by kernel_rfl) (by kernel_rfl) hP ?_
  refine VC_seq ?_
  refine VC_region 4 rfl ?_
  refine RV_new (c := 3) TOK [1, 2, 3] (fun b1 => ⟨[(1, .int .i64 5), (2, .int .i64 1), (3, .pointer (some ⟨b1, 0, none⟩))], [⟨b1, 36, [.int .i64 0, .int .i64 3, .int .i64 77]⟩]⟩) (fun _ => by kernel_rfl) (fun b1 => ?_)
  refine RV_go (hs := [0]) (c' := 2) (k' := 2) TOK [1, 2, 3, 6] ⟨[(1, .int .i64 5), (2, .int .i64 1), (3, .pointer (some ⟨b1, 0, none⟩)), (6, .int .i64 0)], [⟨b1, 36, [.int .i64 0, .int .i64 3, .int .i64 77]⟩]⟩ [] (by kernel_rfl) (by kernel_rfl) ?_
  refine RV_new (c := 1) TOK [1, 2, 3, 6, 7] (fun b2 => ⟨[(1, .int .i64 5), (2, .int .i64 1), (3, .pointer (some ⟨b1, 0, none⟩)), (6, .int .i64 0), (7, .pointer (some ⟨b2, 0, none⟩))], [⟨b2, 37, [.int .i64 0, .int .i64 0, .int .i64 0]⟩, ⟨b1, 36, [.int .i64 0, .int .i64 3, .int .i64 77]⟩]⟩) (fun _ => by kernel_rfl) (fun b2 => ?_)
  refine RV_go (hs := [0]) (c' := 0) (k' := 4) TOK [1, 2, 3, 6, 7, 8] ⟨[(1, .int .i64 5), (2, .int .i64 1), (3, .pointer (some ⟨b1, 0, none⟩)), (6, .int .i64 0), (7, .pointer (some ⟨b2, 0, none⟩)), (8, .int .i64 0)], [⟨b2, 37, [.int .i64 0, .int .i64 0, .int .i64 0]⟩, ⟨b1, 36, [.int .i64 0, .int .i64 3, .int .i64 77]⟩]⟩ [] (by kernel_rfl) (by kernel_rfl) ?_
  refine RV_end ?_
  refine KE_then ?_
  refine VC_seq ?_
  refine VC_region 8 rfl ?_
  refine RV_go (hs := [1]) (c' := 7) (k' := 1) TOK [1, 2, 3, 6, 7, 8, 12] ⟨[(1, .int .i64 5), (2, .int .i64 1), (3, .pointer (some ⟨b1, 0, none⟩)), (6, .int .i64 0), (7, .pointer (some ⟨b2, 0, none⟩)), (8, .int .i64 0), (12, .agg #[.int .i64 0, .int .i64 3, .int .i64 77])], [⟨b2, 37, [.int .i64 0, .int .i64 0, .int .i64 0]⟩, ⟨b1, 36, [.int .i64 0, .int .i64 3, .int .i64 77]⟩]⟩ [b1] (by kernel_rfl) (by kernel_rfl) ?_
  refine RV_call (c := 6) (f := 28) (vs := [.agg #[.int .i64 0, .int .i64 3, .int .i64 77]]) (dst := (some 13)) (by kernel_rfl) E28 (fun wa hxe hp => f28 _ wa hp) ?_
  rintro S3 w4 v5 _ hx6 rfl
  refine RV_go (hs := [0, 0, 0]) (c' := 3) (k' := 5) TOK [1, 2, 3, 6, 7, 8, 14, 15] ⟨[(1, .int .i64 5), (2, .int .i64 1), (3, .pointer (some ⟨b1, 0, none⟩)), (6, .int .i64 0), (7, .pointer (some ⟨b2, 0, none⟩)), (8, .int .i64 0), (14, .agg #[.string (B ([115, 101, 110, 100] : List UInt8)), .int .i64 28, .int .i64 8, .bool true, .int .i64 1, .int .i64 0, .int .i64 0]), (15, .bool true)], [⟨b2, 37, [.int .i64 0, .int .i64 0, .int .i64 0]⟩, ⟨b1, 36, [.int .i64 0, .int .i64 3, .int .i64 77]⟩]⟩ [] (by kernel_rfl) (by kernel_rfl) ?_
  refine RV_new (c := 2) TOK [1, 2, 3, 6, 7, 8, 9, 14, 15] (fun b7 => ⟨[(1, .int .i64 5), (2, .int .i64 1), (3, .pointer (some ⟨b1, 0, none⟩)), (6, .int .i64 0), (7, .pointer (some ⟨b2, 0, none⟩)), (8, .int .i64 0), (9, .pointer (some ⟨b7, 0, none⟩)), (14, .agg #[.string (B ([115, 101, 110, 100] : List UInt8)), .int .i64 28, .int .i64 8, .bool true, .int .i64 1, .int .i64 0, .int .i64 0]), (15, .bool true)], [⟨b7, 53, [.string (B ([] : List UInt8)), .int .i64 0, .int .i64 0, .bool false, .int .i64 0, .int .i64 0, .int .i64 0]⟩, ⟨b2, 37, [.int .i64 0, .int .i64 0, .int .i64 0]⟩, ⟨b1, 36, [.int .i64 0, .int .i64 3, .int .i64 77]⟩]⟩) (fun _ => by kernel_rfl) (fun b7 => ?_)
  refine RV_go (hs := [0, 0]) (c' := 0) (k' := 8) TOK [1, 2, 3, 6, 7, 8, 9, 10] ⟨[(1, .int .i64 5), (2, .int .i64 1), (3, .pointer (some ⟨b1, 0, none⟩)), (6, .int .i64 0), (7, .pointer (some ⟨b2, 0, none⟩)), (8, .int .i64 0), (9, .pointer (some ⟨b7, 0, none⟩)), (10, .bool true)], [⟨b7, 53, [.string (B ([115, 101, 110, 100] : List UInt8)), .int .i64 28, .int .i64 8, .bool true, .int .i64 1, .int .i64 0, .int .i64 0]⟩, ⟨b2, 37, [.int .i64 0, .int .i64 0, .int .i64 0]⟩, ⟨b1, 36, [.int .i64 0, .int .i64 3, .int .i64 77]⟩]⟩ [b7] (by kernel_rfl) (by kernel_rfl) ?_
  refine RV_end ?_
  refine KE_then ?_
  refine VC_seq ?_
  refine VC_block ?_
  refine VC_go (hs := [0, 0, 0]) TOK [1, 2, 3, 6, 7, 8, 9, 16] ⟨[(1, .int .i64 5), (2, .int .i64 1), (3, .pointer (some ⟨b1, 0, none⟩)), (6, .int .i64 0), (7, .pointer (some ⟨b2, 0, none⟩)), (8, .int .i64 0), (9, .pointer (some ⟨b7, 0, none⟩)), (16, .bool false)], [⟨b7, 53, [.string (B ([115, 101, 110, 100] : List UInt8)), .int .i64 28, .int .i64 8, .bool true, .int .i64 1, .int .i64 0, .int .i64 0]⟩, ⟨b2, 37, [.int .i64 0, .int .i64 0, .int .i64 0]⟩, ⟨b1, 36, [.int .i64 0, .int .i64 3, .int .i64 77]⟩]⟩ [] (by kernel_rfl) (by kernel_rfl) ?_
  refine VC_false (by kernel_rfl) ?_
  refine VC_seq ?_
  refine VC_region 4 rfl ?_
  refine RV_go (hs := [0, 2, 0]) (c' := 1) (k' := 3) TOK [1, 2, 3, 6, 7, 8, 9, 23] ⟨[(1, .int .i64 5), (2, .int .i64 1), (3, .pointer (some ⟨b1, 0, none⟩)), (6, .int .i64 0), (7, .pointer (some ⟨b2, 0, none⟩)), (8, .int .i64 0), (9, .pointer (some ⟨b7, 0, none⟩)), (23, .bool (0 == 0))], [⟨b7, 53, [.string (B ([115, 101, 110, 100] : List UInt8)), .int .i64 28, .int .i64 8, .bool true, .int .i64 1, .int .i64 0, .int .i64 0]⟩, ⟨b2, 37, [.int .i64 0, .int .i64 0, .int .i64 0]⟩, ⟨b1, 36, [.int .i64 0, .int .i64 3, .int .i64 77]⟩]⟩ [b1] (by kernel_rfl) (by kernel_rfl) ?_
  refine RV_st ⟨[(1, .int .i64 5), (2, .int .i64 1), (3, .pointer (some ⟨b1, 0, none⟩)), (6, .int .i64 0), (7, .pointer (some ⟨b2, 0, none⟩)), (8, .int .i64 0), (9, .pointer (some ⟨b7, 0, none⟩)), (23, .bool true)], [⟨b7, 53, [.string (B ([115, 101, 110, 100] : List UInt8)), .int .i64 28, .int .i64 8, .bool true, .int .i64 1, .int .i64 0, .int .i64 0]⟩, ⟨b2, 37, [.int .i64 0, .int .i64 0, .int .i64 0]⟩, ⟨b1, 36, [.int .i64 0, .int .i64 3, .int .i64 77]⟩]⟩ (by rw [(show (0 == 0) = true from by decide)]) ?_
  refine RV_go (hs := [0]) (c' := 0) (k' := 4) TOK [1, 2, 3, 6, 7, 8, 9, 20] ⟨[(1, .int .i64 5), (2, .int .i64 1), (3, .pointer (some ⟨b1, 0, none⟩)), (6, .int .i64 0), (7, .pointer (some ⟨b2, 0, none⟩)), (8, .int .i64 0), (9, .pointer (some ⟨b7, 0, none⟩)), (20, .bool true)], [⟨b7, 53, [.string (B ([115, 101, 110, 100] : List UInt8)), .int .i64 28, .int .i64 8, .bool true, .int .i64 1, .int .i64 0, .int .i64 0]⟩, ⟨b2, 37, [.int .i64 0, .int .i64 0, .int .i64 0]⟩, ⟨b1, 36, [.int .i64 0, .int .i64 3, .int .i64 77]⟩]⟩ [] (by kernel_rfl) (by kernel_rfl) ?_
  refine RV_end ?_
  refine KE_then ?_
  refine VC_true (by kernel_rfl) ?_
  refine VC_seq ?_
  refine VC_draw MIX [⟨b7, 53, [.string (B ([115, 101, 110, 100] : List UInt8)), .int .i64 28, .int .i64 8, .bool true, .int .i64 1, .int .i64 0, .int .i64 0]⟩, ⟨b1, 36, [.int .i64 0, .int .i64 3, .int .i64 77]⟩] 11 rfl ?_
  refine RVd_take (fuel' := 2) TOK [] [(0, 0), (1, 0), (2, 0), (3, 1), (4, 0), (5, 1), (6, 0), (7, 0), (8, 0)] [3, 6, 7, 8, 9, 31] [0, 2] #[true, true, true, true, true, true, true, true, true, false, false] [(3, .pointer (some ⟨b1, 0, none⟩)), (6, .int .i64 28), (7, .pointer (some ⟨b2, 0, none⟩)), (8, .int .i64 0), (9, .pointer (some ⟨b7, 0, none⟩)), (31, .agg #[.int .i64 3, .int .i64 77, .int .i64 1])] [b7, b1, b1] [] (by kernel_rfl) (by kernel_rfl) (by kernel_rfl) (by kernel_rfl) ROL_nil trivial ?_
  refine RVd_step (fuel := 1) TOK 9 1 [3, 6, 7, 8, 9] [0, 2] #[true, true, true, true, true, true, true, true, true, true, false] ⟨[(3, .pointer (some ⟨b1, 0, none⟩)), (6, .int .i64 28), (7, .pointer (some ⟨b2, 0, none⟩)), (8, .int .i64 0), (9, .pointer (some ⟨b7, 0, none⟩))], [⟨b7, 53, [.string (B ([115, 101, 110, 100] : List UInt8)), .int .i64 28, .int .i64 8, .bool true, .int .i64 1, .int .i64 0, .int .i64 0]⟩, ⟨b2, 37, [.int .i64 3, .int .i64 77, .int .i64 1]⟩, ⟨b1, 36, [.int .i64 0, .int .i64 3, .int .i64 77]⟩]⟩ [b2] (by kernel_rfl) (by kernel_rfl) (by kernel_rfl) (by kernel_rfl) ?_
  refine RVd_take (fuel' := 0) TOK [] [(10, 0)] [3, 6, 7, 8, 9] [0, 2] #[true, true, true, true, true, true, true, true, true, true, true] [(3, .pointer (some ⟨b1, 0, none⟩)), (6, .int .i64 28), (7, .pointer (some ⟨b2, 0, none⟩)), (8, .int .i64 0), (9, .pointer (some ⟨b7, 0, none⟩))] [] [] (by kernel_rfl) (by kernel_rfl) (by kernel_rfl) (by kernel_rfl) ROL_nil trivial ?_
  refine RVd_end (by kernel_rfl) ?_
  refine KE_then ?_
  refine VC_ret (ls := []) TOK [] 3 false [1] [.int .i64 28, .agg #[.int .i64 3, .int .i64 77, .int .i64 1], .int .i64 0] [b2] ([]) rfl (by kernel_rfl) (by kernel_rfl) (fun w9 hx9 => ?_)
  show (.tuple #[.int .i64 28, .agg #[.int .i64 3, .int .i64 77, .int .i64 1], .int .i64 0] : Value) = .tuple #[.int .i64 28, .agg #[.int .i64 3, .int .i64 77, .int .i64 1], .int .i64 0]
  rfl

theorem f17  (S : Nat → Prop) (w : World) (hP : Pre S w []) :
    Calls Tryd.prog 17 #[.agg #[.int .i64 0, .int .i64 3, .int .i64 77], .int .i64 0] w (Ret S w [] fun v_ ls_ S_ w_ => v_ = .int .i64 1) := by
  refine Calls_of_VC (ls := []) ⟨[(0, .agg #[.int .i64 0, .int .i64 3, .int .i64 77]), (1, .int .i64 0)], []⟩ Tryd.func17 rfl (by kernel_rfl) (by kernel_rfl) hP ?_
  refine VC_seq ?_
  refine VC_region 2 rfl ?_
  refine RV_new (c := 1) TOK [1, 2] (fun b1 => ⟨[(1, .int .i64 0), (2, .pointer (some ⟨b1, 0, none⟩))], [⟨b1, 36, [.int .i64 0, .int .i64 3, .int .i64 77]⟩]⟩) (fun _ => by kernel_rfl) (fun b1 => ?_)
  refine RV_go (hs := [0]) (c' := 0) (k' := 2) TOK [1, 2, 4] ⟨[(1, .int .i64 0), (2, .pointer (some ⟨b1, 0, none⟩)), (4, .int .i64 0)], [⟨b1, 36, [.int .i64 0, .int .i64 3, .int .i64 77]⟩]⟩ [] (by kernel_rfl) (by kernel_rfl) ?_
  refine RV_end ?_
  refine KE_then ?_
  refine VC_seq ?_
  refine VC_region 8 rfl ?_
  refine RV_go (hs := [0]) (c' := 7) (k' := 1) TOK [1, 4, 8] ⟨[(1, .int .i64 0), (4, .int .i64 0), (8, .agg #[.int .i64 0, .int .i64 3, .int .i64 77])], [⟨b1, 36, [.int .i64 0, .int .i64 3, .int .i64 77]⟩]⟩ [b1] (by kernel_rfl) (by kernel_rfl) ?_
  refine RV_call (c := 6) (f := 28) (vs := [.agg #[.int .i64 0, .int .i64 3, .int .i64 77]]) (dst := (some 9)) (by kernel_rfl) E28 (fun wa hxe hp => f28 _ wa hp) ?_
  rintro S2 w3 v4 _ hx5 rfl
  refine RV_go (hs := [0, 0, 0]) (c' := 3) (k' := 5) TOK [1, 4, 10, 11] ⟨[(1, .int .i64 0), (4, .int .i64 0), (10, .agg #[.string (B ([115, 101, 110, 100] : List UInt8)), .int .i64 28, .int .i64 8, .bool true, .int .i64 1, .int .i64 0, .int .i64 0]), (11, .bool true)], [⟨b1, 36, [.int .i64 0, .int .i64 3, .int .i64 77]⟩]⟩ [] (by kernel_rfl) (by kernel_rfl) ?_
  refine RV_new (c := 2) TOK [1, 4, 5, 10, 11] (fun b6 => ⟨[(1, .int .i64 0), (4, .int .i64 0), (5, .pointer (some ⟨b6, 0, none⟩)), (10, .agg #[.string (B ([115, 101, 110, 100] : List UInt8)), .int .i64 28, .int .i64 8, .bool true, .int .i64 1, .int .i64 0, .int .i64 0]), (11, .bool true)], [⟨b6, 53, [.string (B ([] : List UInt8)), .int .i64 0, .int .i64 0, .bool false, .int .i64 0, .int .i64 0, .int .i64 0]⟩, ⟨b1, 36, [.int .i64 0, .int .i64 3, .int .i64 77]⟩]⟩) (fun _ => by kernel_rfl) (fun b6 => ?_)
  refine RV_go (hs := [0, 0]) (c' := 0) (k' := 8) TOK [1, 4, 5] ⟨[(1, .int .i64 0), (4, .int .i64 0), (5, .pointer (some ⟨b6, 0, none⟩))], [⟨b6, 53, [.string (B ([115, 101, 110, 100] : List UInt8)), .int .i64 28, .int .i64 8, .bool true, .int .i64 1, .int .i64 0, .int .i64 0]⟩, ⟨b1, 36, [.int .i64 0, .int .i64 3, .int .i64 77]⟩]⟩ [b6] (by kernel_rfl) (by kernel_rfl) ?_
  refine RV_end ?_
  refine KE_then ?_
  refine VC_seq ?_
  refine VC_go (hs := [0]) TOK [4, 5, 12] ⟨[(4, .int .i64 0), (5, .pointer (some ⟨b6, 0, none⟩)), (12, .int .i64 0)], [⟨b6, 53, [.string (B ([115, 101, 110, 100] : List UInt8)), .int .i64 28, .int .i64 8, .bool true, .int .i64 1, .int .i64 0, .int .i64 0]⟩, ⟨b1, 36, [.int .i64 0, .int .i64 3, .int .i64 77]⟩]⟩ [] (by kernel_rfl) (by kernel_rfl) ?_
  refine VC_block ?_
  refine VC_seq ?_
  refine VC_region 2 rfl ?_
  refine RV_go (hs := [0]) (c' := 1) (k' := 1) TOK [4, 5, 12, 14] ⟨[(4, .int .i64 0), (5, .pointer (some ⟨b6, 0, none⟩)), (12, .int .i64 0), (14, .bool (0 == 0))], [⟨b6, 53, [.string (B ([115, 101, 110, 100] : List UInt8)), .int .i64 28, .int .i64 8, .bool true, .int .i64 1, .int .i64 0, .int .i64 0]⟩, ⟨b1, 36, [.int .i64 0, .int .i64 3, .int .i64 77]⟩]⟩ [] (by kernel_rfl) (by kernel_rfl) ?_
  refine RV_st ⟨[(4, .int .i64 0), (5, .pointer (some ⟨b6, 0, none⟩)), (12, .int .i64 0), (14, .bool true)], [⟨b6, 53, [.string (B ([115, 101, 110, 100] : List UInt8)), .int .i64 28, .int .i64 8, .bool true, .int .i64 1, .int .i64 0, .int .i64 0]⟩, ⟨b1, 36, [.int .i64 0, .int .i64 3, .int .i64 77]⟩]⟩ (by rw [(show (0 == 0) = true from by decide)]) ?_
  refine RV_go (hs := [0]) (c' := 0) (k' := 2) TOK [4, 5, 12, 13] ⟨[(4, .int .i64 0), (5, .pointer (some ⟨b6, 0, none⟩)), (12, .int .i64 0), (13, .bool true)], [⟨b6, 53, [.string (B ([115, 101, 110, 100] : List UInt8)), .int .i64 28, .int .i64 8, .bool true, .int .i64 1, .int .i64 0, .int .i64 0]⟩, ⟨b1, 36, [.int .i64 0, .int .i64 3, .int .i64 77]⟩]⟩ [] (by kernel_rfl) (by kernel_rfl) ?_
  refine RV_end ?_
  refine KE_then ?_
  refine VC_true (by kernel_rfl) ?_
  refine VC_go (hs := [0, 0, 0]) TOK [4] ⟨[(4, .int .i64 1)], [⟨b6, 53, [.string (B ([115, 101, 110, 100] : List UInt8)), .int .i64 28, .int .i64 8, .bool true, .int .i64 1, .int .i64 0, .int .i64 0]⟩, ⟨b1, 36, [.int .i64 0, .int .i64 3, .int .i64 77]⟩]⟩ [b6] (by kernel_rfl) (by kernel_rfl) ?_
  refine VC_ret (ls := []) TOK [] 2 false [] [.int .i64 1] [] ([]) rfl (by kernel_rfl) (by kernel_rfl) (fun w9 hx9 => ?_)
  show (.int .i64 1 : Value) = .int .i64 1
  rfl

theorem f12 (x y : Sl) (xs ys : List Sc) (S : Nat → Prop) (w : World) (hP : Pre S w []) (hx : RSl scE S w x xs) (hy : RSl scE S w y ys) (hb : xs.length ≤ 1000000) :
    Calls Tryd.prog 12 #[.slice x.a x.n x.c, .slice y.a y.n y.c] w (Ret S w [] fun v_ ls_ S_ w_ => v_ = .bool (decide (xs = ys))) := by
  refine Calls_of_VC (ls := []) ⟨[(0, .slice x.a x.n x.c), (1, .slice y.a y.n y.c)], []⟩ Tryd.func12 rfl (by kernel_rfl) (by kernel_rfl) hP ?_
  refine VC_go (hs := [0]) TOK [0, 1, 4] ⟨[(0, .slice x.a x.n x.c), (1, .slice y.a y.n y.c), (4, .bool false)], []⟩ [] (by kernel_rfl) (by kernel_rfl) ?_
  refine VC_seq ?_
  refine VC_region 4 rfl ?_
  refine RV_go (hs := [0, 0]) (c' := 2) (k' := 2) TOK [4, 5, 6] ⟨[(4, .bool false), (5, .slice x.a x.n x.c), (6, .slice y.a y.n y.c)], []⟩ [] (by kernel_rfl) (by kernel_rfl) ?_
  refine RV_call (c := 1) (f := 21) (vs := [.slice x.a x.n x.c, .slice y.a y.n y.c]) (dst := (some 7)) (by kernel_rfl) E21 (fun wa hxe hp => f21 x y xs ys _ wa hp (hx.ext hxe) (hy.ext hxe) hb) ?_
  rintro S1 w2 v3 _ hx4 rfl
  have hx := hx.ext hx4
  have hy := hy.ext hx4
  refine RV_go (hs := [0]) (c' := 0) (k' := 4) TOK [4] ⟨[(4, .bool (decide (xs = ys)))], []⟩ [] (by kernel_rfl) (by kernel_rfl) ?_
  refine RV_end ?_
  refine KE_then ?_
  refine VC_ret (ls := []) TOK [] 0 false [] [.bool (decide (xs = ys))] [] ([]) rfl (by kernel_rfl) (by kernel_rfl) (fun w9 hx9 => ?_)
  show (.bool (decide (xs = ys)) : Value) = .bool (decide (xs = ys))
  rfl

theorem f8  (S : Nat → Prop) (w : World) (hP : Pre S w []) (hG : Glob S w) :
    Calls Tryd.prog 8 #[] w (Ret S w [] fun v_ ls_ S_ w_ => v_ = .bool true) := by
  refine Calls_of_VC (ls := []) ⟨[], []⟩ Tryd.func8 rfl (by kernel_rfl) (by kernel_rfl) hP ?_
  refine VC_go (hs := [0]) TOK [0] ⟨[(0, .bool false)], []⟩ [] (by kernel_rfl) (by kernel_rfl) ?_
  refine VC_seq ?_
  refine VC_region 8 rfl ?_
  refine RV_call (c := 7) (f := 9) (vs := [.string (B ([115, 101, 110, 100, 32, 51, 32, 55, 55, 10, 121, 105, 101, 108, 100, 32, 48, 32, 48, 10] : List UInt8))]) (dst := (some 8)) (by kernel_rfl) E9 (fun wa hxe hp => c9 ([115, 101, 110, 100, 32, 51, 32, 55, 55, 10, 121, 105, 101, 108, 100, 32, 48, 32, 48, 10] : List UInt8) _ wa hp (hG.ext hxe) (by first | decide | (simp only [List.length_append] <;> omega) | omega | (simp only [List.length_take]; omega))) ?_
  rintro S7 w8 v9 _ hx10 (⟨cs1, x2, hs3, rfl, hx4⟩ | ⟨cs1, r5, hs3, hr6, rfl⟩)
  · skip
    have hG := hG.ext hx10
    obtain rfl := (Split.one sp2 hs3).1
    have hx4n := hx4.n
    have hq2 : x2.n = 2 := hx4.n
    refine RV_go (hs := [0, 0, 0, 0, 0, 0, 0]) (c' := 0) (k' := 8) TOK [0, 1, 2, 3] ⟨[(0, .bool false), (1, .slice x2.a x2.n x2.c), (2, .int .i64 20), (3, .int .i64 0)], []⟩ [] (by kernel_rfl) (by kernel_rfl) ?_
    refine RV_end ?_
    refine KE_then ?_
    refine VC_seq ?_
    refine VC_seq ?_
    refine VC_region 3 rfl ?_
    refine RV_go (hs := [0, 0, 0]) (c' := 0) (k' := 3) TOK [0, 1, 2, 3, 14] ⟨[(0, .bool false), (1, .slice x2.a x2.n x2.c), (2, .int .i64 20), (3, .int .i64 0), (14, .bool ((x2.n : Int) != 2))], []⟩ [] (by kernel_rfl) (by kernel_rfl) ?_
    refine RV_st ⟨[(0, .bool false), (1, .slice x2.a x2.n x2.c), (2, .int .i64 20), (3, .int .i64 0), (14, .bool false)], []⟩ (by rw [(show ((x2.n : Int) != 2) = false from by rw [hq2]; decide)]) ?_
    refine RV_end ?_
    refine KE_then ?_
    refine VC_false (by kernel_rfl) ?_
    refine VC_skip ?_
    refine KE_then ?_
    refine VC_seq ?_
    refine VC_region 12 rfl ?_
    refine RV_go (hs := [0]) (c' := 11) (k' := 1) TOK [0, 1, 2, 3, 16] ⟨[(0, .bool false), (1, .slice x2.a x2.n x2.c), (2, .int .i64 20), (3, .int .i64 0), (16, .slice x2.a x2.n x2.c)], []⟩ [] (by kernel_rfl) (by kernel_rfl) ?_
    obtain ⟨b11, o12, ha13⟩ := hx4.addr (Nat.lt_of_le_of_lt (Nat.zero_le 0) (by decide))
    refine RV_st ⟨[(0, .bool false), (1, .slice (some ⟨b11, o12, none⟩) x2.n x2.c), (2, .int .i64 20), (3, .int .i64 0), (16, .slice (some ⟨b11, o12, none⟩) x2.n x2.c)], []⟩ (by simp only [ha13]) ?_
    obtain ⟨vs_, hro14, ⟨rfl, hr1, hr2, hr3⟩⟩ := hx4.here ha13 0 (by decide)
    refine RV_run (hs := [0, 1000]) (c' := 9) (k' := 3) TOK [⟨b11, o12 + 0 * 3, [.int .i64 0, .int .i64 3, .int .i64 77]⟩] [0, 1, 2, 3, 18] ⟨[(0, .bool false), (1, .slice (some ⟨b11, o12, none⟩) x2.n x2.c), (2, .int .i64 20), (3, .int .i64 0), (18, .agg #[.int .i64 0, .int .i64 3, .int .i64 77])], []⟩ [b11, o12 + 0 * 3] [.lt 0 x2.n] (by kernel_rfl) (by kernel_rfl) (ROS_cons hro14 ROS_nil) (by simp only [Conds, Cond.holds, and_true]; omega) ?_
    refine RV_call (c := 8) (f := 16) (vs := [.agg #[.int .i64 0, .int .i64 3, .int .i64 77], .int .i64 5, .int .i64 1]) (dst := (some 19)) (by kernel_rfl) E16 (fun wa hxe hp => f16 _ wa hp) ?_
    rintro S15 w16 v17 _ hx18 rfl
    have hG := hG.ext hx18
    have hx4 := hx4.ext hx18
    refine RV_go (hs := [0, 0, 0, 0]) (c' := 4) (k' := 8) TOK [0, 1, 2, 3, 20, 21, 22] ⟨[(0, .bool false), (1, .slice (some ⟨b11, o12, none⟩) x2.n x2.c), (2, .int .i64 20), (3, .int .i64 0), (20, .int .i64 28), (21, .agg #[.int .i64 3, .int .i64 77, .int .i64 1]), (22, .int .i64 0)], []⟩ [] (by kernel_rfl) (by kernel_rfl) ?_
    refine RV_new (c := 3) TOK [0, 1, 2, 3, 5, 20, 21, 22] (fun b19 => ⟨[(0, .bool false), (1, .slice (some ⟨b11, o12, none⟩) x2.n x2.c), (2, .int .i64 20), (3, .int .i64 0), (5, .pointer (some ⟨b19, 0, none⟩)), (20, .int .i64 28), (21, .agg #[.int .i64 3, .int .i64 77, .int .i64 1]), (22, .int .i64 0)], [⟨b19, 37, [.int .i64 0, .int .i64 0, .int .i64 0]⟩]⟩) (fun _ => by kernel_rfl) (fun b19 => ?_)
    refine RV_go (hs := [0, 0, 0]) (c' := 0) (k' := 12) TOK [0, 1, 2, 3, 4, 5, 6] ⟨[(0, .bool false), (1, .slice (some ⟨b11, o12, none⟩) x2.n x2.c), (2, .int .i64 20), (3, .int .i64 0), (4, .int .i64 28), (5, .pointer (some ⟨b19, 0, none⟩)), (6, .int .i64 0)], [⟨b19, 37, [.int .i64 3, .int .i64 77, .int .i64 1]⟩]⟩ [b19] (by kernel_rfl) (by kernel_rfl) ?_
    refine RV_end ?_
    refine KE_then ?_
    refine VC_seq ?_
    refine VC_region 56 rfl ?_
    refine RV_go (hs := [0, 0]) (c' := 54) (k' := 2) TOK [0, 1, 3, 4, 5, 6, 24] ⟨[(0, .bool false), (1, .slice (some ⟨b11, o12, none⟩) x2.n x2.c), (3, .int .i64 0), (4, .int .i64 28), (5, .pointer (some ⟨b19, 0, none⟩)), (6, .int .i64 0), (24, .bool (20 == 20))], [⟨b19, 37, [.int .i64 3, .int .i64 77, .int .i64 1]⟩]⟩ [] (by kernel_rfl) (by kernel_rfl) ?_
    refine RV_st ⟨[(0, .bool false), (1, .slice (some ⟨b11, o12, none⟩) x2.n x2.c), (3, .int .i64 0), (4, .int .i64 28), (5, .pointer (some ⟨b19, 0, none⟩)), (6, .int .i64 0), (24, .bool true)], [⟨b19, 37, [.int .i64 3, .int .i64 77, .int .i64 1]⟩]⟩ (by rw [(show (20 == 20) = true from by decide)]) ?_
    refine RV_go (hs := [0, 0, 0]) (c' := 51) (k' := 5) TOK [0, 1, 4, 5, 6, 25, 27] ⟨[(0, .bool false), (1, .slice (some ⟨b11, o12, none⟩) x2.n x2.c), (4, .int .i64 28), (5, .pointer (some ⟨b19, 0, none⟩)), (6, .int .i64 0), (25, .bool true), (27, .bool (0 == 0))], [⟨b19, 37, [.int .i64 3, .int .i64 77, .int .i64 1]⟩]⟩ [] (by kernel_rfl) (by kernel_rfl) ?_
    refine RV_st ⟨[(0, .bool false), (1, .slice (some ⟨b11, o12, none⟩) x2.n x2.c), (4, .int .i64 28), (5, .pointer (some ⟨b19, 0, none⟩)), (6, .int .i64 0), (25, .bool true), (27, .bool true)], [⟨b19, 37, [.int .i64 3, .int .i64 77, .int .i64 1]⟩]⟩ (by rw [(show (0 == 0) = true from by decide)]) ?_
    refine RV_run (hs := [0, 0, 0, 0, 1000, 0]) (c' := 45) (k' := 11) TOK [⟨b11, o12 + 0 * 3, [.int .i64 0, .int .i64 3, .int .i64 77]⟩] [0, 1, 4, 5, 6, 29, 32, 33] ⟨[(0, .bool false), (1, .slice (some ⟨b11, o12, none⟩) x2.n x2.c), (4, .int .i64 28), (5, .pointer (some ⟨b19, 0, none⟩)), (6, .int .i64 0), (29, .bool true), (32, .agg #[.int .i64 0, .int .i64 3, .int .i64 77]), (33, .agg #[.int .i64 0, .int .i64 3, .int .i64 77])], [⟨b19, 37, [.int .i64 3, .int .i64 77, .int .i64 1]⟩]⟩ [b11, o12 + 0 * 3] [.lt 0 x2.n] (by kernel_rfl) (by kernel_rfl) (ROS_cons (hro14.ext hx18) ROS_nil) (by simp only [Conds, Cond.holds, and_true]; omega) ?_
    refine RV_eq (c := 44) TOK STOK 20 [0, 1, 4, 5, 6, 29, 34] ⟨[(0, .bool false), (1, .slice (some ⟨b11, o12, none⟩) x2.n x2.c), (4, .int .i64 28), (5, .pointer (some ⟨b19, 0, none⟩)), (6, .int .i64 0), (29, .bool true), (34, .bool ((0 == 0) && ((3 == 3) && (77 == 77))))], [⟨b19, 37, [.int .i64 3, .int .i64 77, .int .i64 1]⟩]⟩ rfl (by kernel_rfl) ?_
    refine RV_go (hs := [0]) (c' := 43) (k' := 13) TOK [0, 1, 4, 5, 6, 35] ⟨[(0, .bool false), (1, .slice (some ⟨b11, o12, none⟩) x2.n x2.c), (4, .int .i64 28), (5, .pointer (some ⟨b19, 0, none⟩)), (6, .int .i64 0), (35, .bool ((0 == 0) && ((3 == 3) && (77 == 77))))], [⟨b19, 37, [.int .i64 3, .int .i64 77, .int .i64 1]⟩]⟩ [] (by kernel_rfl) (by kernel_rfl) ?_
    refine RV_st ⟨[(0, .bool false), (1, .slice (some ⟨b11, o12, none⟩) x2.n x2.c), (4, .int .i64 28), (5, .pointer (some ⟨b19, 0, none⟩)), (6, .int .i64 0), (35, .bool true)], [⟨b19, 37, [.int .i64 3, .int .i64 77, .int .i64 1]⟩]⟩ (by rw [(show ((0 == 0) && ((3 == 3) && (77 == 77))) = true from by decide)]) ?_
    refine RV_go (hs := [0, 0]) (c' := 41) (k' := 15) TOK [0, 1, 4, 5, 6, 36, 37] ⟨[(0, .bool false), (1, .slice (some ⟨b11, o12, none⟩) x2.n x2.c), (4, .int .i64 28), (5, .pointer (some ⟨b19, 0, none⟩)), (6, .int .i64 0), (36, .bool true), (37, .slice (some ⟨b11, o12, none⟩) x2.n x2.c)], [⟨b19, 37, [.int .i64 3, .int .i64 77, .int .i64 1]⟩]⟩ [] (by kernel_rfl) (by kernel_rfl) ?_
    obtain ⟨vs_, hro20, ⟨rfl, hr1, hr2, hr3⟩⟩ := hx4.here ha13 1 (by decide)
    refine RV_run (hs := [0, 0, 1100, 0]) (c' := 37) (k' := 19) TOK [⟨b11, o12 + 0 * 3, [.int .i64 0, .int .i64 3, .int .i64 77]⟩, ⟨b11, o12 + 1 * 3, [.int .i64 9, .int .i64 0, .int .i64 0]⟩] [0, 1, 4, 5, 6, 36, 41] ⟨[(0, .bool false), (1, .slice (some ⟨b11, o12, none⟩) x2.n x2.c), (4, .int .i64 28), (5, .pointer (some ⟨b19, 0, none⟩)), (6, .int .i64 0), (36, .bool true), (41, .bool (9 == 9))], [⟨b19, 37, [.int .i64 3, .int .i64 77, .int .i64 1]⟩]⟩ [b11, o12 + 1 * 3] [.lt 1 x2.n] (by kernel_rfl) (by kernel_rfl) (ROS_cons (hro14.ext hx18) (ROS_cons hro20 ROS_nil)) (by simp only [Conds, Cond.holds, and_true]; omega) ?_
    refine RV_st ⟨[(0, .bool false), (1, .slice (some ⟨b11, o12, none⟩) x2.n x2.c), (4, .int .i64 28), (5, .pointer (some ⟨b19, 0, none⟩)), (6, .int .i64 0), (36, .bool true), (41, .bool true)], [⟨b19, 37, [.int .i64 3, .int .i64 77, .int .i64 1]⟩]⟩ (by rw [(show (9 == 9) = true from by decide)]) ?_
    refine RV_go (hs := [0, 0, 0, 0]) (c' := 33) (k' := 23) TOK [0, 1, 4, 5, 43, 45] ⟨[(0, .bool false), (1, .slice (some ⟨b11, o12, none⟩) x2.n x2.c), (4, .int .i64 28), (5, .pointer (some ⟨b19, 0, none⟩)), (43, .bool true), (45, .bool (0 == 0))], [⟨b19, 37, [.int .i64 3, .int .i64 77, .int .i64 1]⟩]⟩ [] (by kernel_rfl) (by kernel_rfl) ?_
    refine RV_st ⟨[(0, .bool false), (1, .slice (some ⟨b11, o12, none⟩) x2.n x2.c), (4, .int .i64 28), (5, .pointer (some ⟨b19, 0, none⟩)), (43, .bool true), (45, .bool true)], [⟨b19, 37, [.int .i64 3, .int .i64 77, .int .i64 1]⟩]⟩ (by rw [(show (0 == 0) = true from by decide)]) ?_
    refine RV_go (hs := [0, 0, 0, 0]) (c' := 29) (k' := 27) TOK [0, 1, 5, 47, 49] ⟨[(0, .bool false), (1, .slice (some ⟨b11, o12, none⟩) x2.n x2.c), (5, .pointer (some ⟨b19, 0, none⟩)), (47, .bool true), (49, .bool (28 == 28))], [⟨b19, 37, [.int .i64 3, .int .i64 77, .int .i64 1]⟩]⟩ [] (by kernel_rfl) (by kernel_rfl) ?_
    refine RV_st ⟨[(0, .bool false), (1, .slice (some ⟨b11, o12, none⟩) x2.n x2.c), (5, .pointer (some ⟨b19, 0, none⟩)), (47, .bool true), (49, .bool true)], [⟨b19, 37, [.int .i64 3, .int .i64 77, .int .i64 1]⟩]⟩ (by rw [(show (28 == 28) = true from by decide)]) ?_
    refine RV_go (hs := [0, 0, 0, 0]) (c' := 25) (k' := 31) TOK [0, 1, 51, 52, 53] ⟨[(0, .bool false), (1, .slice (some ⟨b11, o12, none⟩) x2.n x2.c), (51, .bool true), (52, .agg #[.int .i64 3, .int .i64 77, .int .i64 1]), (53, .agg #[.int .i64 3, .int .i64 77, .int .i64 1])], [⟨b19, 37, [.int .i64 3, .int .i64 77, .int .i64 1]⟩]⟩ [b19] (by kernel_rfl) (by kernel_rfl) ?_
    refine RV_eq (c := 24) TOK STOK 20 [0, 1, 51, 54] ⟨[(0, .bool false), (1, .slice (some ⟨b11, o12, none⟩) x2.n x2.c), (51, .bool true), (54, .bool ((3 == 3) && ((77 == 77) && (1 == 1))))], [⟨b19, 37, [.int .i64 3, .int .i64 77, .int .i64 1]⟩]⟩ rfl (by kernel_rfl) ?_
    refine RV_go (hs := [0]) (c' := 23) (k' := 33) TOK [0, 1, 55] ⟨[(0, .bool false), (1, .slice (some ⟨b11, o12, none⟩) x2.n x2.c), (55, .bool ((3 == 3) && ((77 == 77) && (1 == 1))))], [⟨b19, 37, [.int .i64 3, .int .i64 77, .int .i64 1]⟩]⟩ [] (by kernel_rfl) (by kernel_rfl) ?_
    refine RV_st ⟨[(0, .bool false), (1, .slice (some ⟨b11, o12, none⟩) x2.n x2.c), (55, .bool true)], [⟨b19, 37, [.int .i64 3, .int .i64 77, .int .i64 1]⟩]⟩ (by rw [(show ((3 == 3) && ((77 == 77) && (1 == 1))) = true from by decide)]) ?_
    refine RV_run (hs := [0, 0, 0, 1000]) (c' := 19) (k' := 37) TOK [⟨b11, o12 + 0 * 3, [.int .i64 0, .int .i64 3, .int .i64 77]⟩, ⟨b11, o12 + 1 * 3, [.int .i64 9, .int .i64 0, .int .i64 0]⟩] [0, 1, 56, 59] ⟨[(0, .bool false), (1, .slice (some ⟨b11, o12, none⟩) x2.n x2.c), (56, .bool true), (59, .agg #[.int .i64 0, .int .i64 3, .int .i64 77])], [⟨b19, 37, [.int .i64 3, .int .i64 77, .int .i64 1]⟩]⟩ [b11, o12 + 0 * 3] [.lt 0 x2.n] (by kernel_rfl) (by kernel_rfl) (ROS_cons (hro14.ext hx18) (ROS_cons hro20 ROS_nil)) (by simp only [Conds, Cond.holds, and_true]; omega) ?_
    refine RV_call (c := 18) (f := 17) (vs := [.agg #[.int .i64 0, .int .i64 3, .int .i64 77], .int .i64 0]) (dst := (some 60)) (by kernel_rfl) E17 (fun wa hxe hp => f17 _ wa hp) ?_
    rintro S21 w22 v23 _ hx24 rfl
    have hG := hG.ext hx24
    have hx4 := hx4.ext hx24
    refine RV_go (hs := [0]) (c' := 17) (k' := 39) TOK [0, 1, 56, 61] ⟨[(0, .bool false), (1, .slice (some ⟨b11, o12, none⟩) x2.n x2.c), (56, .bool true), (61, .bool (1 == 1))], [⟨b19, 37, [.int .i64 3, .int .i64 77, .int .i64 1]⟩]⟩ [] (by kernel_rfl) (by kernel_rfl) ?_
    refine RV_st ⟨[(0, .bool false), (1, .slice (some ⟨b11, o12, none⟩) x2.n x2.c), (56, .bool true), (61, .bool true)], [⟨b19, 37, [.int .i64 3, .int .i64 77, .int .i64 1]⟩]⟩ (by rw [(show (1 == 1) = true from by decide)]) ?_
    refine RV_go (hs := [0, 0, 0]) (c' := 14) (k' := 42) TOK [0, 1, 63, 64] ⟨[(0, .bool false), (1, .slice (some ⟨b11, o12, none⟩) x2.n x2.c), (63, .bool true), (64, .slice (some ⟨b11, o12, none⟩) x2.n x2.c)], [⟨b19, 37, [.int .i64 3, .int .i64 77, .int .i64 1]⟩]⟩ [] (by kernel_rfl) (by kernel_rfl) ?_
    refine RV_call (c := 13) (f := 14) (vs := [.slice (some ⟨b11, o12, none⟩) x2.n x2.c]) (dst := (some 65)) (by kernel_rfl) E14 (fun wa hxe hp => (by rw [← ha13]; exact f14 x2 c2 _ wa hp (hG.ext hxe) (hx4.ext hxe) wr2 (by first | omega | decide | (simp only [List.length_append]; omega)))) ?_
    rintro S25 w26 v27 _ hx28 rfl
    have hG := hG.ext hx28
    have hx4 := hx4.ext hx28
    refine RV_go (hs := [0]) (c' := 12) (k' := 44) TOK [0, 1, 63, 66] ⟨[(0, .bool false), (1, .slice (some ⟨b11, o12, none⟩) x2.n x2.c), (63, .bool true), (66, .bool ((B (printL c2)).toList == (B ([115, 101, 110, 100, 32, 51, 32, 55, 55, 10, 121, 105, 101, 108, 100, 32, 48, 32, 48, 10] : List UInt8)).toList))], [⟨b19, 37, [.int .i64 3, .int .i64 77, .int .i64 1]⟩]⟩ [] (by kernel_rfl) (by kernel_rfl) ?_
    refine RV_st ⟨[(0, .bool false), (1, .slice (some ⟨b11, o12, none⟩) x2.n x2.c), (63, .bool true), (66, .bool true)], [⟨b19, 37, [.int .i64 3, .int .i64 77, .int .i64 1]⟩]⟩ (by rw [(show ((B (printL c2)).toList == (B ([115, 101, 110, 100, 32, 51, 32, 55, 55, 10, 121, 105, 101, 108, 100, 32, 48, 32, 48, 10] : List UInt8)).toList) = true from by rw [pr2]; simp)]) ?_
    refine RV_go (hs := [0, 0, 0, 0]) (c' := 8) (k' := 48) TOK [0, 1, 68, 69, 70] ⟨[(0, .bool false), (1, .slice (some ⟨b11, o12, none⟩) x2.n x2.c), (68, .bool true), (69, .slice (some ⟨b11, o12, none⟩) x2.n x2.c), (70, .slice (some ⟨b11, o12, none⟩) x2.n x2.c)], [⟨b19, 37, [.int .i64 3, .int .i64 77, .int .i64 1]⟩]⟩ [] (by kernel_rfl) (by kernel_rfl) ?_
    refine RV_call (c := 7) (f := 12) (vs := [.slice (some ⟨b11, o12, none⟩) x2.n x2.c, .slice (some ⟨b11, o12, none⟩) x2.n x2.c]) (dst := (some 71)) (by kernel_rfl) E12 (fun wa hxe hp => (by rw [← ha13]; exact f12 x2 x2 c2 c2 _ wa hp (hx4.ext hxe) (hx4.ext hxe) (by first | omega | decide | (simp only [List.length_append, List.length_cons, List.length_nil]; omega) | (simp only [List.length_take]; omega)))) ?_
    rintro S29 w30 v31 _ hx32 rfl
    have hG := hG.ext hx32
    have hx4 := hx4.ext hx32
    refine RV_go (hs := [0]) (c' := 6) (k' := 50) TOK [0, 1, 72] ⟨[(0, .bool false), (1, .slice (some ⟨b11, o12, none⟩) x2.n x2.c), (72, .bool (decide (c2 = c2)))], [⟨b19, 37, [.int .i64 3, .int .i64 77, .int .i64 1]⟩]⟩ [] (by kernel_rfl) (by kernel_rfl) ?_
    refine RV_st ⟨[(0, .bool false), (1, .slice (some ⟨b11, o12, none⟩) x2.n x2.c), (72, .bool true)], [⟨b19, 37, [.int .i64 3, .int .i64 77, .int .i64 1]⟩]⟩ (by rw [(show (decide (c2 = c2)) = true from by simp)]) ?_
    refine RV_go (hs := [0, 0]) (c' := 4) (k' := 52) TOK [0, 73, 74] ⟨[(0, .bool false), (73, .bool true), (74, .slice (some ⟨b11, o12, none⟩) x2.n x2.c)], [⟨b19, 37, [.int .i64 3, .int .i64 77, .int .i64 1]⟩]⟩ [] (by kernel_rfl) (by kernel_rfl) ?_
    refine RV_call (c := 3) (f := 12) (vs := [.slice (some ⟨b11, o12, none⟩) x2.n x2.c, .slice none 0 0]) (dst := (some 75)) (by kernel_rfl) E12 (fun wa hxe hp => (by rw [← ha13]; exact f12 x2 ⟨none, 0, 0⟩ c2 ([] : List Sc) _ wa hp (hx4.ext hxe) (RSl.nil scE _ _) (by first | omega | decide | (simp only [List.length_append, List.length_cons, List.length_nil]; omega) | (simp only [List.length_take]; omega)))) ?_
    rintro S33 w34 v35 _ hx36 rfl
    have hG := hG.ext hx36
    have hx4 := hx4.ext hx36
    refine RV_go (hs := [0]) (c' := 2) (k' := 54) TOK [0, 73, 76] ⟨[(0, .bool false), (73, .bool true), (76, .bool (!(decide (c2 = ([] : List Sc)))))], [⟨b19, 37, [.int .i64 3, .int .i64 77, .int .i64 1]⟩]⟩ [] (by kernel_rfl) (by kernel_rfl) ?_
    refine RV_st ⟨[(0, .bool false), (73, .bool true), (76, .bool true)], [⟨b19, 37, [.int .i64 3, .int .i64 77, .int .i64 1]⟩]⟩ (by rw [(show (!(decide (c2 = ([] : List Sc)))) = true from by rw [show (decide (c2 = ([] : List Sc))) = false from by simp [c2]]; rfl)]) ?_
    refine RV_go (hs := [0, 0]) (c' := 0) (k' := 56) TOK [0] ⟨[(0, .bool true)], [⟨b19, 37, [.int .i64 3, .int .i64 77, .int .i64 1]⟩]⟩ [] (by kernel_rfl) (by kernel_rfl) ?_
    refine RV_end ?_
    refine KE_then ?_
    refine VC_ret (ls := []) TOK [] 1 false [] [.bool true] [] ([]) rfl (by kernel_rfl) (by kernel_rfl) (fun w9 hx9 => ?_)
    show (.bool true : Value) = .bool true
    rfl
  · skip
    have hG := hG.ext hx10
    exact absurd (Split.one sp2 hs3).2.symm hr6

end Go.YtmfkmoecbnghhaaDoor
