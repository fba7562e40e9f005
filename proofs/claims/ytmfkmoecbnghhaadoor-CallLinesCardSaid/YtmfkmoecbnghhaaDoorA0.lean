/- Contracts of functions, over the symbolic executor: each comes to what its theorem says. Written by gen.py, a program of this work. -/
import Derived.Test.YtmfkmoecbnghhaaDoorEngE0
import Derived.Test.YtmfkmoecbnghhaaDoorCallLaw
namespace Go.YtmfkmoecbnghhaaDoor
open Go Eng Go.Proofs Law
set_option linter.unusedVariables false
set_option linter.unusedSimpArgs false

def kindsC : List Value := [.string (B ([115, 101, 110, 100] : List UInt8)), .int .i64 28, .int .i64 8, .bool true, .int .i64 1, .int .i64 0, .int .i64 0, .string (B ([114, 101, 99, 118] : List UInt8)), .int .i64 29, .int .i64 8, .bool false, .int .i64 2, .int .i64 0, .int .i64 0, .string (B ([116, 114, 121] : List UInt8)), .int .i64 10, .int .i64 8, .bool false, .int .i64 2, .int .i64 3, .int .i64 0, .string (B ([112, 117, 116] : List UInt8)), .int .i64 16, .int .i64 65536, .bool true, .int .i64 4, .int .i64 0, .int .i64 5, .string (B ([108, 111, 111, 107] : List UInt8)), .int .i64 17, .int .i64 65536, .bool false, .int .i64 8, .int .i64 7, .int .i64 0, .string (B ([99, 117, 116] : List UInt8)), .int .i64 18, .int .i64 65536, .bool false, .int .i64 6, .int .i64 7, .int .i64 0, .string (B ([115, 101, 116] : List UInt8)), .int .i64 19, .int .i64 16, .bool false, .int .i64 10, .int .i64 0, .int .i64 0, .string (B ([114, 101, 115, 101, 116] : List UInt8)), .int .i64 20, .int .i64 16, .bool false, .int .i64 11, .int .i64 0, .int .i64 0, .string (B ([116, 101, 115, 116] : List UInt8)), .int .i64 21, .int .i64 16, .bool false, .int .i64 12, .int .i64 0, .int .i64 0, .string (B ([121, 105, 101, 108, 100] : List UInt8)), .int .i64 27, .int .i64 0, .bool false, .int .i64 0, .int .i64 0, .int .i64 0]
def kindsV : List (List Value) := [[.string (B ([115, 101, 110, 100] : List UInt8)), .int .i64 28, .int .i64 8, .bool true, .int .i64 1, .int .i64 0, .int .i64 0], [.string (B ([114, 101, 99, 118] : List UInt8)), .int .i64 29, .int .i64 8, .bool false, .int .i64 2, .int .i64 0, .int .i64 0], [.string (B ([116, 114, 121] : List UInt8)), .int .i64 10, .int .i64 8, .bool false, .int .i64 2, .int .i64 3, .int .i64 0], [.string (B ([112, 117, 116] : List UInt8)), .int .i64 16, .int .i64 65536, .bool true, .int .i64 4, .int .i64 0, .int .i64 5], [.string (B ([108, 111, 111, 107] : List UInt8)), .int .i64 17, .int .i64 65536, .bool false, .int .i64 8, .int .i64 7, .int .i64 0], [.string (B ([99, 117, 116] : List UInt8)), .int .i64 18, .int .i64 65536, .bool false, .int .i64 6, .int .i64 7, .int .i64 0], [.string (B ([115, 101, 116] : List UInt8)), .int .i64 19, .int .i64 16, .bool false, .int .i64 10, .int .i64 0, .int .i64 0], [.string (B ([114, 101, 115, 101, 116] : List UInt8)), .int .i64 20, .int .i64 16, .bool false, .int .i64 11, .int .i64 0, .int .i64 0], [.string (B ([116, 101, 115, 116] : List UInt8)), .int .i64 21, .int .i64 16, .bool false, .int .i64 12, .int .i64 0, .int .i64 0], [.string (B ([121, 105, 101, 108, 100] : List UInt8)), .int .i64 27, .int .i64 0, .bool false, .int .i64 0, .int .i64 0, .int .i64 0]]
def Sc.cells (c : Sc) : List Value := [.int .i64 c.no, .int .i64 c.a, .int .i64 c.b]

def scE : Enc Sc where
  n := 3
  rep _ _ vs c := vs = Sc.cells c ∧ InR c.no ∧ InR c.a ∧ InR c.b
  len := fun h => by rw [h.1]; rfl
  cell := fun h => by rw [h.1]; rfl
  mono := fun h _ => h

theorem f22  (S : Nat → Prop) (w : World) (hP : Pre S w []) :
    Calls Tryd.prog 22 #[] w (Ret S w [] fun v_ ls_ S_ w_ => v_ = .agg #[.string (B ([115, 101, 110, 100] : List UInt8)), .int .i64 28, .int .i64 8, .bool true, .int .i64 1, .int .i64 0, .int .i64 0, .string (B ([114, 101, 99, 118] : List UInt8)), .int .i64 29, .int .i64 8, .bool false, .int .i64 2, .int .i64 0, .int .i64 0, .string (B ([116, 114, 121] : List UInt8)), .int .i64 10, .int .i64 8, .bool false, .int .i64 2, .int .i64 3, .int .i64 0, .string (B ([112, 117, 116] : List UInt8)), .int .i64 16, .int .i64 65536, .bool true, .int .i64 4, .int .i64 0, .int .i64 5, .string (B ([108, 111, 111, 107] : List UInt8)), .int .i64 17, .int .i64 65536, .bool false, .int .i64 8, .int .i64 7, .int .i64 0, .string (B ([99, 117, 116] : List UInt8)), .int .i64 18, .int .i64 65536, .bool false, .int .i64 6, .int .i64 7, .int .i64 0, .string (B ([115, 101, 116] : List UInt8)), .int .i64 19, .int .i64 16, .bool false, .int .i64 10, .int .i64 0, .int .i64 0, .string (B ([114, 101, 115, 101, 116] : List UInt8)), .int .i64 20, .int .i64 16, .bool false, .int .i64 11, .int .i64 0, .int .i64 0, .string (B ([116, 101, 115, 116] : List UInt8)), .int .i64 21, .int .i64 16, .bool false, .int .i64 12, .int .i64 0, .int .i64 0, .string (B ([121, 105, 101, 108, 100] : List UInt8)), .int .i64 27, .int .i64 0, .bool false, .int .i64 0, .int .i64 0, .int .i64 0]) := by
  refine Calls_of_VC (ls := []) ⟨[], []⟩ Tryd.func22 rfl (by kernel_rfl) (by kernel_rfl) hP ?_
  refine VC_seq ?_
  refine VC_region 1 rfl ?_
  refine RV_new (c := 0) TOK [0] (fun b1 => ⟨[(0, .pointer (some ⟨b1, 0, none⟩))], [⟨b1, 54, [.string (B ([] : List UInt8)), .int .i64 0, .int .i64 0, .bool false, .int .i64 0, .int .i64 0, .int .i64 0, .string (B ([] : List UInt8)), .int .i64 0, .int .i64 0, .bool false, .int .i64 0, .int .i64 0, .int .i64 0, .string (B ([] : List UInt8)), .int .i64 0, .int .i64 0, .bool false, .int .i64 0, .int .i64 0, .int .i64 0, .string (B ([] : List UInt8)), .int .i64 0, .int .i64 0, .bool false, .int .i64 0, .int .i64 0, .int .i64 0, .string (B ([] : List UInt8)), .int .i64 0, .int .i64 0, .bool false, .int .i64 0, .int .i64 0, .int .i64 0, .string (B ([] : List UInt8)), .int .i64 0, .int .i64 0, .bool false, .int .i64 0, .int .i64 0, .int .i64 0, .string (B ([] : List UInt8)), .int .i64 0, .int .i64 0, .bool false, .int .i64 0, .int .i64 0, .int .i64 0, .string (B ([] : List UInt8)), .int .i64 0, .int .i64 0, .bool false, .int .i64 0, .int .i64 0, .int .i64 0, .string (B ([] : List UInt8)), .int .i64 0, .int .i64 0, .bool false, .int .i64 0, .int .i64 0, .int .i64 0, .string (B ([] : List UInt8)), .int .i64 0, .int .i64 0, .bool false, .int .i64 0, .int .i64 0, .int .i64 0]⟩]⟩) (fun _ => by kernel_rfl) (fun b1 => ?_)
  refine RV_end ?_
  refine KE_then ?_
  refine VC_go (hs := [0, 0, 0, 0, 0, 0, 0, 0, 0, 0, 0, 0]) TOK [0] ⟨[(0, .pointer (some ⟨b1, 0, none⟩))], [⟨b1, 54, [.string (B ([115, 101, 110, 100] : List UInt8)), .int .i64 28, .int .i64 8, .bool true, .int .i64 1, .int .i64 0, .int .i64 0, .string (B ([114, 101, 99, 118] : List UInt8)), .int .i64 29, .int .i64 8, .bool false, .int .i64 2, .int .i64 0, .int .i64 0, .string (B ([116, 114, 121] : List UInt8)), .int .i64 10, .int .i64 8, .bool false, .int .i64 2, .int .i64 3, .int .i64 0, .string (B ([112, 117, 116] : List UInt8)), .int .i64 16, .int .i64 65536, .bool true, .int .i64 4, .int .i64 0, .int .i64 5, .string (B ([108, 111, 111, 107] : List UInt8)), .int .i64 17, .int .i64 65536, .bool false, .int .i64 8, .int .i64 7, .int .i64 0, .string (B ([99, 117, 116] : List UInt8)), .int .i64 18, .int .i64 65536, .bool false, .int .i64 6, .int .i64 7, .int .i64 0, .string (B ([115, 101, 116] : List UInt8)), .int .i64 19, .int .i64 16, .bool false, .int .i64 10, .int .i64 0, .int .i64 0, .string (B ([114, 101, 115, 101, 116] : List UInt8)), .int .i64 20, .int .i64 16, .bool false, .int .i64 11, .int .i64 0, .int .i64 0, .string (B ([116, 101, 115, 116] : List UInt8)), .int .i64 21, .int .i64 16, .bool false, .int .i64 12, .int .i64 0, .int .i64 0, .string (B ([121, 105, 101, 108, 100] : List UInt8)), .int .i64 27, .int .i64 0, .bool false, .int .i64 0, .int .i64 0, .int .i64 0]⟩]⟩ [b1] (by kernel_rfl) (by kernel_rfl) ?_
  refine VC_ret (ls := []) TOK [] 1 false [0] [.agg #[.string (B ([115, 101, 110, 100] : List UInt8)), .int .i64 28, .int .i64 8, .bool true, .int .i64 1, .int .i64 0, .int .i64 0, .string (B ([114, 101, 99, 118] : List UInt8)), .int .i64 29, .int .i64 8, .bool false, .int .i64 2, .int .i64 0, .int .i64 0, .string (B ([116, 114, 121] : List UInt8)), .int .i64 10, .int .i64 8, .bool false, .int .i64 2, .int .i64 3, .int .i64 0, .string (B ([112, 117, 116] : List UInt8)), .int .i64 16, .int .i64 65536, .bool true, .int .i64 4, .int .i64 0, .int .i64 5, .string (B ([108, 111, 111, 107] : List UInt8)), .int .i64 17, .int .i64 65536, .bool false, .int .i64 8, .int .i64 7, .int .i64 0, .string (B ([99, 117, 116] : List UInt8)), .int .i64 18, .int .i64 65536, .bool false, .int .i64 6, .int .i64 7, .int .i64 0, .string (B ([115, 101, 116] : List UInt8)), .int .i64 19, .int .i64 16, .bool false, .int .i64 10, .int .i64 0, .int .i64 0, .string (B ([114, 101, 115, 101, 116] : List UInt8)), .int .i64 20, .int .i64 16, .bool false, .int .i64 11, .int .i64 0, .int .i64 0, .string (B ([116, 101, 115, 116] : List UInt8)), .int .i64 21, .int .i64 16, .bool false, .int .i64 12, .int .i64 0, .int .i64 0, .string (B ([121, 105, 101, 108, 100] : List UInt8)), .int .i64 27, .int .i64 0, .bool false, .int .i64 0, .int .i64 0, .int .i64 0]] [b1] ([]) rfl (by kernel_rfl) (by kernel_rfl) (fun w9 hx9 => ?_)
  show (.agg #[.string (B ([115, 101, 110, 100] : List UInt8)), .int .i64 28, .int .i64 8, .bool true, .int .i64 1, .int .i64 0, .int .i64 0, .string (B ([114, 101, 99, 118] : List UInt8)), .int .i64 29, .int .i64 8, .bool false, .int .i64 2, .int .i64 0, .int .i64 0, .string (B ([116, 114, 121] : List UInt8)), .int .i64 10, .int .i64 8, .bool false, .int .i64 2, .int .i64 3, .int .i64 0, .string (B ([112, 117, 116] : List UInt8)), .int .i64 16, .int .i64 65536, .bool true, .int .i64 4, .int .i64 0, .int .i64 5, .string (B ([108, 111, 111, 107] : List UInt8)), .int .i64 17, .int .i64 65536, .bool false, .int .i64 8, .int .i64 7, .int .i64 0, .string (B ([99, 117, 116] : List UInt8)), .int .i64 18, .int .i64 65536, .bool false, .int .i64 6, .int .i64 7, .int .i64 0, .string (B ([115, 101, 116] : List UInt8)), .int .i64 19, .int .i64 16, .bool false, .int .i64 10, .int .i64 0, .int .i64 0, .string (B ([114, 101, 115, 101, 116] : List UInt8)), .int .i64 20, .int .i64 16, .bool false, .int .i64 11, .int .i64 0, .int .i64 0, .string (B ([116, 101, 115, 116] : List UInt8)), .int .i64 21, .int .i64 16, .bool false, .int .i64 12, .int .i64 0, .int .i64 0, .string (B ([121, 105, 101, 108, 100] : List UInt8)), .int .i64 27, .int .i64 0, .bool false, .int .i64 0, .int .i64 0, .int .i64 0] : Value) = .agg #[.string (B ([115, 101, 110, 100] : List UInt8)), .int .i64 28, .int .i64 8, .bool true, .int .i64 1, .int .i64 0, .int .i64 0, .string (B ([114, 101, 99, 118] : List UInt8)), .int .i64 29, .int .i64 8, .bool false, .int .i64 2, .int .i64 0, .int .i64 0, .string (B ([116, 114, 121] : List UInt8)), .int .i64 10, .int .i64 8, .bool false, .int .i64 2, .int .i64 3, .int .i64 0, .string (B ([112, 117, 116] : List UInt8)), .int .i64 16, .int .i64 65536, .bool true, .int .i64 4, .int .i64 0, .int .i64 5, .string (B ([108, 111, 111, 107] : List UInt8)), .int .i64 17, .int .i64 65536, .bool false, .int .i64 8, .int .i64 7, .int .i64 0, .string (B ([99, 117, 116] : List UInt8)), .int .i64 18, .int .i64 65536, .bool false, .int .i64 6, .int .i64 7, .int .i64 0, .string (B ([115, 101, 116] : List UInt8)), .int .i64 19, .int .i64 16, .bool false, .int .i64 10, .int .i64 0, .int .i64 0, .string (B ([114, 101, 115, 101, 116] : List UInt8)), .int .i64 20, .int .i64 16, .bool false, .int .i64 11, .int .i64 0, .int .i64 0, .string (B ([116, 101, 115, 116] : List UInt8)), .int .i64 21, .int .i64 16, .bool false, .int .i64 12, .int .i64 0, .int .i64 0, .string (B ([121, 105, 101, 108, 100] : List UInt8)), .int .i64 27, .int .i64 0, .bool false, .int .i64 0, .int .i64 0, .int .i64 0]
  rfl

theorem f26_0  (S : Nat → Prop) (w : World) (hP : Pre S w []) :
    Calls Tryd.prog 26 #[.int .i64 0] w (Ret S w [] fun v_ ls_ S_ w_ => v_ = .string (B (wordL 0))) := by
  refine Calls_of_VC (ls := []) ⟨[(0, .int .i64 0)], []⟩ Tryd.func26 rfl (by kernel_rfl) (by kernel_rfl) hP ?_
  refine VC_go (hs := [0]) TOK [0, 2] ⟨[(0, .int .i64 0), (2, .string (B ([] : List UInt8)))], []⟩ [] (by kernel_rfl) (by kernel_rfl) ?_
  refine VC_seq ?_
  refine VC_region 2 rfl ?_
  refine RV_new (c := 1) TOK [0, 2, 4] (fun b1 => ⟨[(0, .int .i64 0), (2, .string (B ([] : List UInt8))), (4, .slice (some ⟨b1, 0, none⟩) 10 10)], [⟨b1, 9, [.string (B ([115, 101, 110, 100] : List UInt8)), .string (B ([114, 101, 99, 118] : List UInt8)), .string (B ([116, 114, 121] : List UInt8)), .string (B ([112, 117, 116] : List UInt8)), .string (B ([108, 111, 111, 107] : List UInt8)), .string (B ([99, 117, 116] : List UInt8)), .string (B ([115, 101, 116] : List UInt8)), .string (B ([114, 101, 115, 101, 116] : List UInt8)), .string (B ([116, 101, 115, 116] : List UInt8)), .string (B ([121, 105, 101, 108, 100] : List UInt8))]⟩]⟩) (fun _ => by kernel_rfl) (fun b1 => ?_)
  refine RV_go (hs := [0]) (c' := 0) (k' := 2) TOK [0, 2, 3] ⟨[(0, .int .i64 0), (2, .string (B ([] : List UInt8))), (3, .slice (some ⟨b1, 0, none⟩) 10 10)], [⟨b1, 9, [.string (B ([115, 101, 110, 100] : List UInt8)), .string (B ([114, 101, 99, 118] : List UInt8)), .string (B ([116, 114, 121] : List UInt8)), .string (B ([112, 117, 116] : List UInt8)), .string (B ([108, 111, 111, 107] : List UInt8)), .string (B ([99, 117, 116] : List UInt8)), .string (B ([115, 101, 116] : List UInt8)), .string (B ([114, 101, 115, 101, 116] : List UInt8)), .string (B ([116, 101, 115, 116] : List UInt8)), .string (B ([121, 105, 101, 108, 100] : List UInt8))]⟩]⟩ [] (by kernel_rfl) (by kernel_rfl) ?_
  refine RV_end ?_
  refine KE_then ?_
  refine VC_seq ?_
  refine VC_region 5 rfl ?_
  refine RV_run (hs := [0, 0, 0, 0, 0]) (c' := 0) (k' := 5) TOK [] [2] ⟨[(2, .string (B ([115, 101, 110, 100] : List UInt8)))], [⟨b1, 9, [.string (B ([115, 101, 110, 100] : List UInt8)), .string (B ([114, 101, 99, 118] : List UInt8)), .string (B ([116, 114, 121] : List UInt8)), .string (B ([112, 117, 116] : List UInt8)), .string (B ([108, 111, 111, 107] : List UInt8)), .string (B ([99, 117, 116] : List UInt8)), .string (B ([115, 101, 116] : List UInt8)), .string (B ([114, 101, 115, 101, 116] : List UInt8)), .string (B ([116, 101, 115, 116] : List UInt8)), .string (B ([121, 105, 101, 108, 100] : List UInt8))]⟩]⟩ [b1] [.lt 0 10] (by kernel_rfl) (by kernel_rfl) ROS_nil (by simp only [Conds, Cond.holds, and_true]; omega) ?_
  refine RV_end ?_
  refine KE_then ?_
  refine VC_ret (ls := []) TOK [] 1 false [] [.string (B ([115, 101, 110, 100] : List UInt8))] [] ([]) rfl (by kernel_rfl) (by kernel_rfl) (fun w9 hx9 => ?_)
  show (.string (B ([115, 101, 110, 100] : List UInt8)) : Value) = .string (B (wordL 0))
  rfl

theorem f26_1  (S : Nat → Prop) (w : World) (hP : Pre S w []) :
    Calls Tryd.prog 26 #[.int .i64 1] w (Ret S w [] fun v_ ls_ S_ w_ => v_ = .string (B (wordL 1))) := by
  refine Calls_of_VC (ls := []) ⟨[(0, .int .i64 1)], []⟩ Tryd.func26 rfl (by kernel_rfl) (by kernel_rfl) hP ?_
  refine VC_go (hs := [0]) TOK [0, 2] ⟨[(0, .int .i64 1), (2, .string (B ([] : List UInt8)))], []⟩ [] (by kernel_rfl) (by kernel_rfl) ?_
  refine VC_seq ?_
  refine VC_region 2 rfl ?_
  refine RV_new (c := 1) TOK [0, 2, 4] (fun b1 => ⟨[(0, .int .i64 1), (2, .string (B ([] : List UInt8))), (4, .slice (some ⟨b1, 0, none⟩) 10 10)], [⟨b1, 9, [.string (B ([115, 101, 110, 100] : List UInt8)), .string (B ([114, 101, 99, 118] : List UInt8)), .string (B ([116, 114, 121] : List UInt8)), .string (B ([112, 117, 116] : List UInt8)), .string (B ([108, 111, 111, 107] : List UInt8)), .string (B ([99, 117, 116] : List UInt8)), .string (B ([115, 101, 116] : List UInt8)), .string (B ([114, 101, 115, 101, 116] : List UInt8)), .string (B ([116, 101, 115, 116] : List UInt8)), .string (B ([121, 105, 101, 108, 100] : List UInt8))]⟩]⟩) (fun _ => by kernel_rfl) (fun b1 => ?_)
  refine RV_go (hs := [0]) (c' := 0) (k' := 2) TOK [0, 2, 3] ⟨[(0, .int .i64 1), (2, .string (B ([] : List UInt8))), (3, .slice (some ⟨b1, 0, none⟩) 10 10)], [⟨b1, 9, [.string (B ([115, 101, 110, 100] : List UInt8)), .string (B ([114, 101, 99, 118] : List UInt8)), .string (B ([116, 114, 121] : List UInt8)), .string (B ([112, 117, 116] : List UInt8)), .string (B ([108, 111, 111, 107] : List UInt8)), .string (B ([99, 117, 116] : List UInt8)), .string (B ([115, 101, 116] : List UInt8)), .string (B ([114, 101, 115, 101, 116] : List UInt8)), .string (B ([116, 101, 115, 116] : List UInt8)), .string (B ([121, 105, 101, 108, 100] : List UInt8))]⟩]⟩ [] (by kernel_rfl) (by kernel_rfl) ?_
  refine RV_end ?_
  refine KE_then ?_
  refine VC_seq ?_
  refine VC_region 5 rfl ?_
  refine RV_run (hs := [0, 0, 0, 0, 0]) (c' := 0) (k' := 5) TOK [] [2] ⟨[(2, .string (B ([114, 101, 99, 118] : List UInt8)))], [⟨b1, 9, [.string (B ([115, 101, 110, 100] : List UInt8)), .string (B ([114, 101, 99, 118] : List UInt8)), .string (B ([116, 114, 121] : List UInt8)), .string (B ([112, 117, 116] : List UInt8)), .string (B ([108, 111, 111, 107] : List UInt8)), .string (B ([99, 117, 116] : List UInt8)), .string (B ([115, 101, 116] : List UInt8)), .string (B ([114, 101, 115, 101, 116] : List UInt8)), .string (B ([116, 101, 115, 116] : List UInt8)), .string (B ([121, 105, 101, 108, 100] : List UInt8))]⟩]⟩ [b1] [.lt 1 10] (by kernel_rfl) (by kernel_rfl) ROS_nil (by simp only [Conds, Cond.holds, and_true]; omega) ?_
  refine RV_end ?_
  refine KE_then ?_
  refine VC_ret (ls := []) TOK [] 1 false [] [.string (B ([114, 101, 99, 118] : List UInt8))] [] ([]) rfl (by kernel_rfl) (by kernel_rfl) (fun w9 hx9 => ?_)
  show (.string (B ([114, 101, 99, 118] : List UInt8)) : Value) = .string (B (wordL 1))
  rfl

theorem f26_2  (S : Nat → Prop) (w : World) (hP : Pre S w []) :
    Calls Tryd.prog 26 #[.int .i64 2] w (Ret S w [] fun v_ ls_ S_ w_ => v_ = .string (B (wordL 2))) := by
  refine Calls_of_VC (ls := []) ⟨[(0, .int .i64 2)], []⟩ Tryd.func26 rfl (by kernel_rfl) (by kernel_rfl) hP ?_
  refine VC_go (hs := [0]) TOK [0, 2] ⟨[(0, .int .i64 2), (2, .string (B ([] : List UInt8)))], []⟩ [] (by kernel_rfl) (by kernel_rfl) ?_
  refine VC_seq ?_
  refine VC_region 2 rfl ?_
  refine RV_new (c := 1) TOK [0, 2, 4] (fun b1 => ⟨[(0, .int .i64 2), (2, .string (B ([] : List UInt8))), (4, .slice (some ⟨b1, 0, none⟩) 10 10)], [⟨b1, 9, [.string (B ([115, 101, 110, 100] : List UInt8)), .string (B ([114, 101, 99, 118] : List UInt8)), .string (B ([116, 114, 121] : List UInt8)), .string (B ([112, 117, 116] : List UInt8)), .string (B ([108, 111, 111, 107] : List UInt8)), .string (B ([99, 117, 116] : List UInt8)), .string (B ([115, 101, 116] : List UInt8)), .string (B ([114, 101, 115, 101, 116] : List UInt8)), .string (B ([116, 101, 115, 116] : List UInt8)), .string (B ([121, 105, 101, 108, 100] : List UInt8))]⟩]⟩) (fun _ => by kernel_rfl) (fun b1 => ?_)
  refine RV_go (hs := [0]) (c' := 0) (k' := 2) TOK [0, 2, 3] ⟨[(0, .int .i64 2), (2, .string (B ([] : List UInt8))), (3, .slice (some ⟨b1, 0, none⟩) 10 10)], [⟨b1, 9, [.string (B ([115, 101, 110, 100] : List UInt8)), .string (B ([114, 101, 99, 118] : List UInt8)), .string (B ([116, 114, 121] : List UInt8)), .string (B ([112, 117, 116] : List UInt8)), .string (B ([108, 111, 111, 107] : List UInt8)), .string (B ([99, 117, 116] : List UInt8)), .string (B ([115, 101, 116] : List UInt8)), .string (B ([114, 101, 115, 101, 116] : List UInt8)), .string (B ([116, 101, 115, 116] : List UInt8)), .string (B ([121, 105, 101, 108, 100] : List UInt8))]⟩]⟩ [] (by kernel_rfl) (by kernel_rfl) ?_
  refine RV_end ?_
  refine KE_then ?_
  refine VC_seq ?_
  refine VC_region 5 rfl ?_
  refine RV_run (hs := [0, 0, 0, 0, 0]) (c' := 0) (k' := 5) TOK [] [2] ⟨[(2, .string (B ([116, 114, 121] : List UInt8)))], [⟨b1, 9, [.string (B ([115, 101, 110, 100] : List UInt8)), .string (B ([114, 101, 99, 118] : List UInt8)), .string (B ([116, 114, 121] : List UInt8)), .string (B ([112, 117, 116] : List UInt8)), .string (B ([108, 111, 111, 107] : List UInt8)), .string (B ([99, 117, 116] : List UInt8)), .string (B ([115, 101, 116] : List UInt8)), .string (B ([114, 101, 115, 101, 116] : List UInt8)), .string (B ([116, 101, 115, 116] : List UInt8)), .string (B ([121, 105, 101, 108, 100] : List UInt8))]⟩]⟩ [b1] [.lt 2 10] (by kernel_rfl) (by kernel_rfl) ROS_nil (by simp only [Conds, Cond.holds, and_true]; omega) ?_
  refine RV_end ?_
  refine KE_then ?_
  refine VC_ret (ls := []) TOK [] 1 false [] [.string (B ([116, 114, 121] : List UInt8))] [] ([]) rfl (by kernel_rfl) (by kernel_rfl) (fun w9 hx9 => ?_)
  show (.string (B ([116, 114, 121] : List UInt8)) : Value) = .string (B (wordL 2))
  rfl

theorem f26_3  (S : Nat → Prop) (w : World) (hP : Pre S w []) :
    Calls Tryd.prog 26 #[.int .i64 3] w (Ret S w [] fun v_ ls_ S_ w_ => v_ = .string (B (wordL 3))) := by
  refine Calls_of_VC (ls := []) ⟨[(0, .int .i64 3)], []⟩ Tryd.func26 rfl (by kernel_rfl) (by kernel_rfl) hP ?_
  refine VC_go (hs := [0]) TOK [0, 2] ⟨[(0, .int .i64 3), (2, .string (B ([] : List UInt8)))], []⟩ [] (by kernel_rfl) (by kernel_rfl) ?_
  refine VC_seq ?_
  refine VC_region 2 rfl ?_
  refine RV_new (c := 1) TOK [0, 2, 4] (fun b1 => ⟨[(0, .int .i64 3), (2, .string (B ([] : List UInt8))), (4, .slice (some ⟨b1, 0, none⟩) 10 10)], [⟨b1, 9, [.string (B ([115, 101, 110, 100] : List UInt8)), .string (B ([114, 101, 99, 118] : List UInt8)), .string (B ([116, 114, 121] : List UInt8)), .string (B ([112, 117, 116] : List UInt8)), .string (B ([108, 111, 111, 107] : List UInt8)), .string (B ([99, 117, 116] : List UInt8)), .string (B ([115, 101, 116] : List UInt8)), .string (B ([114, 101, 115, 101, 116] : List UInt8)), .string (B ([116, 101, 115, 116] : List UInt8)), .string (B ([121, 105, 101, 108, 100] : List UInt8))]⟩]⟩) (fun _ => by kernel_rfl) (fun b1 => ?_)
  refine RV_go (hs := [0]) (c' := 0) (k' := 2) TOK [0, 2, 3] ⟨[(0, .int .i64 3), (2, .string (B ([] : List UInt8))), (3, .slice (some ⟨b1, 0, none⟩) 10 10)], [⟨b1, 9, [.string (B ([115, 101, 110, 100] : List UInt8)), .string (B ([114, 101, 99, 118] : List UInt8)), .string (B ([116, 114, 121] : List UInt8)), .string (B ([112, 117, 116] : List UInt8)), .string (B ([108, 111, 111, 107] : List UInt8)), .string (B ([99, 117, 116] : List UInt8)), .string (B ([115, 101, 116] : List UInt8)), .string (B ([114, 101, 115, 101, 116] : List UInt8)), .string (B ([116, 101, 115, 116] : List UInt8)), .string (B ([121, 105, 101, 108, 100] : List UInt8))]⟩]⟩ [] (by kernel_rfl) (by kernel_rfl) ?_
  refine RV_end ?_
  refine KE_then ?_
  refine VC_seq ?_
  refine VC_region 5 rfl ?_
  refine RV_run (hs := [0, 0, 0, 0, 0]) (c' := 0) (k' := 5) TOK [] [2] ⟨[(2, .string (B ([112, 117, 116] : List UInt8)))], [⟨b1, 9, [.string (B ([115, 101, 110, 100] : List UInt8)), .string (B ([114, 101, 99, 118] : List UInt8)), .string (B ([116, 114, 121] : List UInt8)), .string (B ([112, 117, 116] : List UInt8)), .string (B ([108, 111, 111, 107] : List UInt8)), .string (B ([99, 117, 116] : List UInt8)), .string (B ([115, 101, 116] : List UInt8)), .string (B ([114, 101, 115, 101, 116] : List UInt8)), .string (B ([116, 101, 115, 116] : List UInt8)), .string (B ([121, 105, 101, 108, 100] : List UInt8))]⟩]⟩ [b1] [.lt 3 10] (by kernel_rfl) (by kernel_rfl) ROS_nil (by simp only [Conds, Cond.holds, and_true]; omega) ?_
  refine RV_end ?_
  refine KE_then ?_
  refine VC_ret (ls := []) TOK [] 1 false [] [.string (B ([112, 117, 116] : List UInt8))] [] ([]) rfl (by kernel_rfl) (by kernel_rfl) (fun w9 hx9 => ?_)
  show (.string (B ([112, 117, 116] : List UInt8)) : Value) = .string (B (wordL 3))
  rfl

theorem f26_4  (S : Nat → Prop) (w : World) (hP : Pre S w []) :
    Calls Tryd.prog 26 #[.int .i64 4] w (Ret S w [] fun v_ ls_ S_ w_ => v_ = .string (B (wordL 4))) := by
  refine Calls_of_VC (ls := []) ⟨[(0, .int .i64 4)], []⟩ Tryd.func26 rfl (by kernel_rfl) (by kernel_rfl) hP ?_
  refine VC_go (hs := [0]) TOK [0, 2] ⟨[(0, .int .i64 4), (2, .string (B ([] : List UInt8)))], []⟩ [] (by kernel_rfl) (by kernel_rfl) ?_
  refine VC_seq ?_
  refine VC_region 2 rfl ?_
  refine RV_new (c := 1) TOK [0, 2, 4] (fun b1 => ⟨[(0, .int .i64 4), (2, .string (B ([] : List UInt8))), (4, .slice (some ⟨b1, 0, none⟩) 10 10)], [⟨b1, 9, [.string (B ([115, 101, 110, 100] : List UInt8)), .string (B ([114, 101, 99, 118] : List UInt8)), .string (B ([116, 114, 121] : List UInt8)), .string (B ([112, 117, 116] : List UInt8)), .string (B ([108, 111, 111, 107] : List UInt8)), .string (B ([99, 117, 116] : List UInt8)), .string (B ([115, 101, 116] : List UInt8)), .string (B ([114, 101, 115, 101, 116] : List UInt8)), .string (B ([116, 101, 115, 116] : List UInt8)), .string (B ([121, 105, 101, 108, 100] : List UInt8))]⟩]⟩) (fun _ => by kernel_rfl) (fun b1 => ?_)
  refine RV_go (hs := [0]) (c' := 0) (k' := 2) TOK [0, 2, 3] ⟨[(0, .int .i64 4), (2, .string (B ([] : List UInt8))), (3, .slice (some ⟨b1, 0, none⟩) 10 10)], [⟨b1, 9, [.string (B ([115, 101, 110, 100] : List UInt8)), .string (B ([114, 101, 99, 118] : List UInt8)), .string (B ([116, 114, 121] : List UInt8)), .string (B ([112, 117, 116] : List UInt8)), .string (B ([108, 111, 111, 107] : List UInt8)), .string (B ([99, 117, 116] : List UInt8)), .string (B ([115, 101, 116] : List UInt8)), .string (B ([114, 101, 115, 101, 116] : List UInt8)), .string (B ([116, 101, 115, 116] : List UInt8)), .string (B ([121, 105, 101, 108, 100] : List UInt8))]⟩]⟩ [] (by kernel_rfl) (by kernel_rfl) ?_
  refine RV_end ?_
  refine KE_then ?_
  refine VC_seq ?_
  refine VC_region 5 rfl ?_
  refine RV_run (hs := [0, 0, 0, 0, 0]) (c' := 0) (k' := 5) TOK [] [2] ⟨[(2, .string (B ([108, 111, 111, 107] : List UInt8)))], [⟨b1, 9, [.string (B ([115, 101, 110, 100] : List UInt8)), .string (B ([114, 101, 99, 118] : List UInt8)), .string (B ([116, 114, 121] : List UInt8)), .string (B ([112, 117, 116] : List UInt8)), .string (B ([108, 111, 111, 107] : List UInt8)), .string (B ([99, 117, 116] : List UInt8)), .string (B ([115, 101, 116] : List UInt8)), .string (B ([114, 101, 115, 101, 116] : List UInt8)), .string (B ([116, 101, 115, 116] : List UInt8)), .string (B ([121, 105, 101, 108, 100] : List UInt8))]⟩]⟩ [b1] [.lt 4 10] (by kernel_rfl) (by kernel_rfl) ROS_nil (by simp only [Conds, Cond.holds, and_true]; omega) ?_
  refine RV_end ?_
  refine KE_then ?_
  refine VC_ret (ls := []) TOK [] 1 false [] [.string (B ([108, 111, 111, 107] : List UInt8))] [] ([]) rfl (by kernel_rfl) (by kernel_rfl) (fun w9 hx9 => ?_)
  show (.string (B ([108, 111, 111, 107] : List UInt8)) : Value) = .string (B (wordL 4))
  rfl

theorem f26_5  (S : Nat → Prop) (w : World) (hP : Pre S w []) :
    Calls Tryd.prog 26 #[.int .i64 5] w (Ret S w [] fun v_ ls_ S_ w_ => v_ = .string (B (wordL 5))) := by
  refine Calls_of_VC (ls := []) ⟨[(0, .int .i64 5)], []⟩ Tryd.func26 rfl (by kernel_rfl) (by kernel_rfl) hP ?_
  refine VC_go (hs := [0]) TOK [0, 2] ⟨[(0, .int .i64 5), (2, .string (B ([] : List UInt8)))], []⟩ [] (by kernel_rfl) (by kernel_rfl) ?_
  refine VC_seq ?_
  refine VC_region 2 rfl ?_
  refine RV_new (c := 1) TOK [0, 2, 4] (fun b1 => ⟨[(0, .int .i64 5), (2, .string (B ([] : List UInt8))), (4, .slice (some ⟨b1, 0, none⟩) 10 10)], [⟨b1, 9, [.string (B ([115, 101, 110, 100] : List UInt8)), .string (B ([114, 101, 99, 118] : List UInt8)), .string (B ([116, 114, 121] : List UInt8)), .string (B ([112, 117, 116] : List UInt8)), .string (B ([108, 111, 111, 107] : List UInt8)), .string (B ([99, 117, 116] : List UInt8)), .string (B ([115, 101, 116] : List UInt8)), .string (B ([114, 101, 115, 101, 116] : List UInt8)), .string (B ([116, 101, 115, 116] : List UInt8)), .string (B ([121, 105, 101, 108, 100] : List UInt8))]⟩]⟩) (fun _ => by kernel_rfl) (fun b1 => ?_)
  refine RV_go (hs := [0]) (c' := 0) (k' := 2) TOK [0, 2, 3] ⟨[(0, .int .i64 5), (2, .string (B ([] : List UInt8))), (3, .slice (some ⟨b1, 0, none⟩) 10 10)], [⟨b1, 9, [.string (B ([115, 101, 110, 100] : List UInt8)), .string (B ([114, 101, 99, 118] : List UInt8)), .string (B ([116, 114, 121] : List UInt8)), .string (B ([112, 117, 116] : List UInt8)), .string (B ([108, 111, 111, 107] : List UInt8)), .string (B ([99, 117, 116] : List UInt8)), .string (B ([115, 101, 116] : List UInt8)), .string (B ([114, 101, 115, 101, 116] : List UInt8)), .string (B ([116, 101, 115, 116] : List UInt8)), .string (B ([121, 105, 101, 108, 100] : List UInt8))]⟩]⟩ [] (by kernel_rfl) (by kernel_rfl) ?_
  refine RV_end ?_
  refine KE_then ?_
  refine VC_seq ?_
  refine VC_region 5 rfl ?_
  refine RV_run (hs := [0, 0, 0, 0, 0]) (c' := 0) (k' := 5) TOK [] [2] ⟨[(2, .string (B ([99, 117, 116] : List UInt8)))], [⟨b1, 9, [.string (B ([115, 101, 110, 100] : List UInt8)), .string (B ([114, 101, 99, 118] : List UInt8)), .string (B ([116, 114, 121] : List UInt8)), .string (B ([112, 117, 116] : List UInt8)), .string (B ([108, 111, 111, 107] : List UInt8)), .string (B ([99, 117, 116] : List UInt8)), .string (B ([115, 101, 116] : List UInt8)), .string (B ([114, 101, 115, 101, 116] : List UInt8)), .string (B ([116, 101, 115, 116] : List UInt8)), .string (B ([121, 105, 101, 108, 100] : List UInt8))]⟩]⟩ [b1] [.lt 5 10] (by kernel_rfl) (by kernel_rfl) ROS_nil (by simp only [Conds, Cond.holds, and_true]; omega) ?_
  refine RV_end ?_
  refine KE_then ?_
  refine VC_ret (ls := []) TOK [] 1 false [] [.string (B ([99, 117, 116] : List UInt8))] [] ([]) rfl (by kernel_rfl) (by kernel_rfl) (fun w9 hx9 => ?_)
  show (.string (B ([99, 117, 116] : List UInt8)) : Value) = .string (B (wordL 5))
  rfl

theorem f26_6  (S : Nat → Prop) (w : World) (hP : Pre S w []) :
    Calls Tryd.prog 26 #[.int .i64 6] w (Ret S w [] fun v_ ls_ S_ w_ => v_ = .string (B (wordL 6))) := by
  refine Calls_of_VC (ls := []) ⟨[(0, .int .i64 6)], []⟩ Tryd.func26 rfl (by kernel_rfl) (by kernel_rfl) hP ?_
  refine VC_go (hs := [0]) TOK [0, 2] ⟨[(0, .int .i64 6), (2, .string (B ([] : List UInt8)))], []⟩ [] (by kernel_rfl) (by kernel_rfl) ?_
  refine VC_seq ?_
  refine VC_region 2 rfl ?_
  refine RV_new (c := 1) TOK [0, 2, 4] (fun b1 => ⟨[(0, .int .i64 6), (2, .string (B ([] : List UInt8))), (4, .slice (some ⟨b1, 0, none⟩) 10 10)], [⟨b1, 9, [.string (B ([115, 101, 110, 100] : List UInt8)), .string (B ([114, 101, 99, 118] : List UInt8)), .string (B ([116, 114, 121] : List UInt8)), .string (B ([112, 117, 116] : List UInt8)), .string (B ([108, 111, 111, 107] : List UInt8)), .string (B ([99, 117, 116] : List UInt8)), .string (B ([115, 101, 116] : List UInt8)), .string (B ([114, 101, 115, 101, 116] : List UInt8)), .string (B ([116, 101, 115, 116] : List UInt8)), .string (B ([121, 105, 101, 108, 100] : List UInt8))]⟩]⟩) (fun _ => by kernel_rfl) (fun b1 => ?_)
  refine RV_go (hs := [0]) (c' := 0) (k' := 2) TOK [0, 2, 3] ⟨[(0, .int .i64 6), (2, .string (B ([] : List UInt8))), (3, .slice (some ⟨b1, 0, none⟩) 10 10)], [⟨b1, 9, [.string (B ([115, 101, 110, 100] : List UInt8)), .string (B ([114, 101, 99, 118] : List UInt8)), .string (B ([116, 114, 121] : List UInt8)), .string (B ([112, 117, 116] : List UInt8)), .string (B ([108, 111, 111, 107] : List UInt8)), .string (B ([99, 117, 116] : List UInt8)), .string (B ([115, 101, 116] : List UInt8)), .string (B ([114, 101, 115, 101, 116] : List UInt8)), .string (B ([116, 101, 115, 116] : List UInt8)), .string (B ([121, 105, 101, 108, 100] : List UInt8))]⟩]⟩ [] (by kernel_rfl) (by kernel_rfl) ?_
  refine RV_end ?_
  refine KE_then ?_
  refine VC_seq ?_
  refine VC_region 5 rfl ?_
  refine RV_run (hs := [0, 0, 0, 0, 0]) (c' := 0) (k' := 5) TOK [] [2] ⟨[(2, .string (B ([115, 101, 116] : List UInt8)))], [⟨b1, 9, [.string (B ([115, 101, 110, 100] : List UInt8)), .string (B ([114, 101, 99, 118] : List UInt8)), .string (B ([116, 114, 121] : List UInt8)), .string (B ([112, 117, 116] : List UInt8)), .string (B ([108, 111, 111, 107] : List UInt8)), .string (B ([99, 117, 116] : List UInt8)), .string (B ([115, 101, 116] : List UInt8)), .string (B ([114, 101, 115, 101, 116] : List UInt8)), .string (B ([116, 101, 115, 116] : List UInt8)), .string (B ([121, 105, 101, 108, 100] : List UInt8))]⟩]⟩ [b1] [.lt 6 10] (by kernel_rfl) (by kernel_rfl) ROS_nil (by simp only [Conds, Cond.holds, and_true]; omega) ?_
  refine RV_end ?_
  refine KE_then ?_
  refine VC_ret (ls := []) TOK [] 1 false [] [.string (B ([115, 101, 116] : List UInt8))] [] ([]) rfl (by kernel_rfl) (by kernel_rfl) (fun w9 hx9 => ?_)
  show (.string (B ([115, 101, 116] : List UInt8)) : Value) = .string (B (wordL 6))
  rfl

theorem f26_7  (S : Nat → Prop) (w : World) (hP : Pre S w []) :
    Calls Tryd.prog 26 #[.int .i64 7] w (Ret S w [] fun v_ ls_ S_ w_ => v_ = .string (B (wordL 7))) := by
  refine Calls_of_VC (ls := []) ⟨[(0, .int .i64 7)], []⟩ Tryd.func26 rfl (by kernel_rfl) (by kernel_rfl) hP ?_
  refine VC_go (hs := [0]) TOK [0, 2] ⟨[(0, .int .i64 7), (2, .string (B ([] : List UInt8)))], []⟩ [] (by kernel_rfl) (by kernel_rfl) ?_
  refine VC_seq ?_
  refine VC_region 2 rfl ?_
  refine RV_new (c := 1) TOK [0, 2, 4] (fun b1 => ⟨[(0, .int .i64 7), (2, .string (B ([] : List UInt8))), (4, .slice (some ⟨b1, 0, none⟩) 10 10)], [⟨b1, 9, [.string (B ([115, 101, 110, 100] : List UInt8)), .string (B ([114, 101, 99, 118] : List UInt8)), .string (B ([116, 114, 121] : List UInt8)), .string (B ([112, 117, 116] : List UInt8)), .string (B ([108, 111, 111, 107] : List UInt8)), .string (B ([99, 117, 116] : List UInt8)), .string (B ([115, 101, 116] : List UInt8)), .string (B ([114, 101, 115, 101, 116] : List UInt8)), .string (B ([116, 101, 115, 116] : List UInt8)), .string (B ([121, 105, 101, 108, 100] : List UInt8))]⟩]⟩) (fun _ => by kernel_rfl) (fun b1 => ?_)
  refine RV_go (hs := [0]) (c' := 0) (k' := 2) TOK [0, 2, 3] ⟨[(0, .int .i64 7), (2, .string (B ([] : List UInt8))), (3, .slice (some ⟨b1, 0, none⟩) 10 10)], [⟨b1, 9, [.string (B ([115, 101, 110, 100] : List UInt8)), .string (B ([114, 101, 99, 118] : List UInt8)), .string (B ([116, 114, 121] : List UInt8)), .string (B ([112, 117, 116] : List UInt8)), .string (B ([108, 111, 111, 107] : List UInt8)), .string (B ([99, 117, 116] : List UInt8)), .string (B ([115, 101, 116] : List UInt8)), .string (B ([114, 101, 115, 101, 116] : List UInt8)), .string (B ([116, 101, 115, 116] : List UInt8)), .string (B ([121, 105, 101, 108, 100] : List UInt8))]⟩]⟩ [] (by kernel_rfl) (by kernel_rfl) ?_
  refine RV_end ?_
  refine KE_then ?_
  refine VC_seq ?_
  refine VC_region 5 rfl ?_
  refine RV_run (hs := [0, 0, 0, 0, 0]) (c' := 0) (k' := 5) TOK [] [2] ⟨[(2, .string (B ([114, 101, 115, 101, 116] : List UInt8)))], [⟨b1, 9, [.string (B ([115, 101, 110, 100] : List UInt8)), .string (B ([114, 101, 99, 118] : List UInt8)), .string (B ([116, 114, 121] : List UInt8)), .string (B ([112, 117, 116] : List UInt8)), .string (B ([108, 111, 111, 107] : List UInt8)), .string (B ([99, 117, 116] : List UInt8)), .string (B ([115, 101, 116] : List UInt8)), .string (B ([114, 101, 115, 101, 116] : List UInt8)), .string (B ([116, 101, 115, 116] : List UInt8)), .string (B ([121, 105, 101, 108, 100] : List UInt8))]⟩]⟩ [b1] [.lt 7 10] (by kernel_rfl) (by kernel_rfl) ROS_nil (by simp only [Conds, Cond.holds, and_true]; omega) ?_
  refine RV_end ?_
  refine KE_then ?_
  refine VC_ret (ls := []) TOK [] 1 false [] [.string (B ([114, 101, 115, 101, 116] : List UInt8))] [] ([]) rfl (by kernel_rfl) (by kernel_rfl) (fun w9 hx9 => ?_)
  show (.string (B ([114, 101, 115, 101, 116] : List UInt8)) : Value) = .string (B (wordL 7))
  rfl

theorem f26_8  (S : Nat → Prop) (w : World) (hP : Pre S w []) :
    Calls Tryd.prog 26 #[.int .i64 8] w (Ret S w [] fun v_ ls_ S_ w_ => v_ = .string (B (wordL 8))) := by
  refine Calls_of_VC (ls := []) ⟨[(0, .int .i64 8)], []⟩ Tryd.func26 rfl (by kernel_rfl) (by kernel_rfl) hP ?_
  refine VC_go (hs := [0]) TOK [0, 2] ⟨[(0, .int .i64 8), (2, .string (B ([] : List UInt8)))], []⟩ [] (by kernel_rfl) (by kernel_rfl) ?_
  refine VC_seq ?_
  refine VC_region 2 rfl ?_
  refine RV_new (c := 1) TOK [0, 2, 4] (fun b1 => ⟨[(0, .int .i64 8), (2, .string (B ([] : List UInt8))), (4, .slice (some ⟨b1, 0, none⟩) 10 10)], [⟨b1, 9, [.string (B ([115, 101, 110, 100] : List UInt8)), .string (B ([114, 101, 99, 118] : List UInt8)), .string (B ([116, 114, 121] : List UInt8)), .string (B ([112, 117, 116] : List UInt8)), .string (B ([108, 111, 111, 107] : List UInt8)), .string (B ([99, 117, 116] : List UInt8)), .string (B ([115, 101, 116] : List UInt8)), .string (B ([114, 101, 115, 101, 116] : List UInt8)), .string (B ([116, 101, 115, 116] : List UInt8)), .string (B ([121, 105, 101, 108, 100] : List UInt8))]⟩]⟩) (fun _ => by kernel_rfl) (fun b1 => ?_)
  refine RV_go (hs := [0]) (c' := 0) (k' := 2) TOK [0, 2, 3] ⟨[(0, .int .i64 8), (2, .string (B ([] : List UInt8))), (3, .slice (some ⟨b1, 0, none⟩) 10 10)], [⟨b1, 9, [.string (B ([115, 101, 110, 100] : List UInt8)), .string (B ([114, 101, 99, 118] : List UInt8)), .string (B ([116, 114, 121] : List UInt8)), .string (B ([112, 117, 116] : List UInt8)), .string (B ([108, 111, 111, 107] : List UInt8)), .string (B ([99, 117, 116] : List UInt8)), .string (B ([115, 101, 116] : List UInt8)), .string (B ([114, 101, 115, 101, 116] : List UInt8)), .string (B ([116, 101, 115, 116] : List UInt8)), .string (B ([121, 105, 101, 108, 100] : List UInt8))]⟩]⟩ [] (by kernel_rfl) (by kernel_rfl) ?_
  refine RV_end ?_
  refine KE_then ?_
  refine VC_seq ?_
  refine VC_region 5 rfl ?_
  refine RV_run (hs := [0, 0, 0, 0, 0]) (c' := 0) (k' := 5) TOK [] [2] ⟨[(2, .string (B ([116, 101, 115, 116] : List UInt8)))], [⟨b1, 9, [.string (B ([115, 101, 110, 100] : List UInt8)), .string (B ([114, 101, 99, 118] : List UInt8)), .string (B ([116, 114, 121] : List UInt8)), .string (B ([112, 117, 116] : List UInt8)), .string (B ([108, 111, 111, 107] : List UInt8)), .string (B ([99, 117, 116] : List UInt8)), .string (B ([115, 101, 116] : List UInt8)), .string (B ([114, 101, 115, 101, 116] : List UInt8)), .string (B ([116, 101, 115, 116] : List UInt8)), .string (B ([121, 105, 101, 108, 100] : List UInt8))]⟩]⟩ [b1] [.lt 8 10] (by kernel_rfl) (by kernel_rfl) ROS_nil (by simp only [Conds, Cond.holds, and_true]; omega) ?_
  refine RV_end ?_
  refine KE_then ?_
  refine VC_ret (ls := []) TOK [] 1 false [] [.string (B ([116, 101, 115, 116] : List UInt8))] [] ([]) rfl (by kernel_rfl) (by kernel_rfl) (fun w9 hx9 => ?_)
  show (.string (B ([116, 101, 115, 116] : List UInt8)) : Value) = .string (B (wordL 8))
  rfl

theorem f26_9  (S : Nat → Prop) (w : World) (hP : Pre S w []) :
    Calls Tryd.prog 26 #[.int .i64 9] w (Ret S w [] fun v_ ls_ S_ w_ => v_ = .string (B (wordL 9))) := by
  refine Calls_of_VC (ls := []) ⟨[(0, .int .i64 9)], []⟩ Tryd.func26 rfl (by kernel_rfl) (by kernel_rfl) hP ?_
  refine VC_go (hs := [0]) TOK [0, 2] ⟨[(0, .int .i64 9), (2, .string (B ([] : List UInt8)))], []⟩ [] (by kernel_rfl) (by kernel_rfl) ?_
  refine VC_seq ?_
  refine VC_region 2 rfl ?_
  refine RV_new (c := 1) TOK [0, 2, 4] (fun b1 => ⟨[(0, .int .i64 9), (2, .string (B ([] : List UInt8))), (4, .slice (some ⟨b1, 0, none⟩) 10 10)], [⟨b1, 9, [.string (B ([115, 101, 110, 100] : List UInt8)), .string (B ([114, 101, 99, 118] : List UInt8)), .string (B ([116, 114, 121] : List UInt8)), .string (B ([112, 117, 116] : List UInt8)), .string (B ([108, 111, 111, 107] : List UInt8)), .string (B ([99, 117, 116] : List UInt8)), .string (B ([115, 101, 116] : List UInt8)), .string (B ([114, 101, 115, 101, 116] : List UInt8)), .string (B ([116, 101, 115, 116] : List UInt8)), .string (B ([121, 105, 101, 108, 100] : List UInt8))]⟩]⟩) (fun _ => by kernel_rfl) (fun b1 => ?_)
  refine RV_go (hs := [0]) (c' := 0) (k' := 2) TOK [0, 2, 3] ⟨[(0, .int .i64 9), (2, .string (B ([] : List UInt8))), (3, .slice (some ⟨b1, 0, none⟩) 10 10)], [⟨b1, 9, [.string (B ([115, 101, 110, 100] : List UInt8)), .string (B ([114, 101, 99, 118] : List UInt8)), .string (B ([116, 114, 121] : List UInt8)), .string (B ([112, 117, 116] : List UInt8)), .string (B ([108, 111, 111, 107] : List UInt8)), .string (B ([99, 117, 116] : List UInt8)), .string (B ([115, 101, 116] : List UInt8)), .string (B ([114, 101, 115, 101, 116] : List UInt8)), .string (B ([116, 101, 115, 116] : List UInt8)), .string (B ([121, 105, 101, 108, 100] : List UInt8))]⟩]⟩ [] (by kernel_rfl) (by kernel_rfl) ?_
  refine RV_end ?_
  refine KE_then ?_
  refine VC_seq ?_
  refine VC_region 5 rfl ?_
  refine RV_run (hs := [0, 0, 0, 0, 0]) (c' := 0) (k' := 5) TOK [] [2] ⟨[(2, .string (B ([121, 105, 101, 108, 100] : List UInt8)))], [⟨b1, 9, [.string (B ([115, 101, 110, 100] : List UInt8)), .string (B ([114, 101, 99, 118] : List UInt8)), .string (B ([116, 114, 121] : List UInt8)), .string (B ([112, 117, 116] : List UInt8)), .string (B ([108, 111, 111, 107] : List UInt8)), .string (B ([99, 117, 116] : List UInt8)), .string (B ([115, 101, 116] : List UInt8)), .string (B ([114, 101, 115, 101, 116] : List UInt8)), .string (B ([116, 101, 115, 116] : List UInt8)), .string (B ([121, 105, 101, 108, 100] : List UInt8))]⟩]⟩ [b1] [.lt 9 10] (by kernel_rfl) (by kernel_rfl) ROS_nil (by simp only [Conds, Cond.holds, and_true]; omega) ?_
  refine RV_end ?_
  refine KE_then ?_
  refine VC_ret (ls := []) TOK [] 1 false [] [.string (B ([121, 105, 101, 108, 100] : List UInt8))] [] ([]) rfl (by kernel_rfl) (by kernel_rfl) (fun w9 hx9 => ?_)
  show (.string (B ([121, 105, 101, 108, 100] : List UInt8)) : Value) = .string (B (wordL 9))
  rfl

theorem f26 (k : Nat) (hk : k < 10) (S : Nat → Prop) (w : World) (hP : Pre S w []) : Calls Tryd.prog 26 #[.int .i64 (k : Int)] w (Ret S w [] fun v ls S w => v = .string (B (wordL k))) := by
  match k, hk with
  | 0, _ => exact f26_0 S w hP
  | 1, _ => exact f26_1 S w hP
  | 2, _ => exact f26_2 S w hP
  | 3, _ => exact f26_3 S w hP
  | 4, _ => exact f26_4 S w hP
  | 5, _ => exact f26_5 S w hP
  | 6, _ => exact f26_6 S w hP
  | 7, _ => exact f26_7 S w hP
  | 8, _ => exact f26_8 S w hP
  | 9, _ => exact f26_9 S w hP
end Go.YtmfkmoecbnghhaaDoor
