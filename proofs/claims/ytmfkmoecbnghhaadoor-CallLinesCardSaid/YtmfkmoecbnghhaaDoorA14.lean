/- Contracts of functions, over the symbolic executor: each comes to what its theorem says. Written by gen.py, a program of this work. -/
import Derived.Test.YtmfkmoecbnghhaaDoorA13
namespace Go.YtmfkmoecbnghhaaDoor
open Go Eng Go.Proofs Law Go.RowKit
set_option linter.unusedVariables false
set_option linter.unusedSimpArgs false

theorem f18 (l : List UInt8) (S : Nat → Prop) (w : World) (hP : Pre S w []) :
    Calls Tryd.prog 18 #[.string (B l)] w (Ret S w [] fun v_ ls_ S_ w_ => ∃ bx, v_ = .func (.func 29) #[] #[.pointer (some ⟨bx, 0, none⟩)] ∧ ls_ = [⟨bx, 9, [.string (B l)]⟩]) := by
  refine Calls_of_VC (ls := []) ⟨[(0, .string (B l))], []⟩ Tryd.func18 rfl (by kernel_rfl) (by kernel_rfl) hP ?_
  refine VC_seq ?_
  refine VC_region 2 rfl ?_
  refine RV_new (c := 1) TOK [1] (fun b1 => ⟨[(1, .pointer (some ⟨b1, 0, none⟩))], [⟨b1, 9, [.string (B l)]⟩]⟩) (fun _ => by kernel_rfl) (fun b1 => ?_)
  refine RV_go (hs := [0]) (c' := 0) (k' := 2) TOK [1, 2] ⟨[(1, .pointer (some ⟨b1, 0, none⟩)), (2, .nilFunc)], [⟨b1, 9, [.string (B l)]⟩]⟩ [] (by kernel_rfl) (by kernel_rfl) ?_
  refine RV_end ?_
  refine KE_then ?_
  refine VC_go (hs := [0, 0]) TOK [2] ⟨[(2, .func (.func 29) #[] #[.pointer (some ⟨b1, 0, none⟩)])], [⟨b1, 9, [.string (B l)]⟩]⟩ [] (by kernel_rfl) (by kernel_rfl) ?_
  refine VC_ret (ls := []) TOK [0] 1 false [] [.func (.func 29) #[] #[.pointer (some ⟨b1, 0, none⟩)]] [] ([⟨b1, 9, [.string (B l)]⟩]) rfl (by kernel_rfl) (by kernel_rfl) (fun w9 hx9 => ?_)
  show ∃ bx, (.func (.func 29) #[] #[.pointer (some ⟨b1, 0, none⟩)] : Value) = .func (.func 29) #[] #[.pointer (some ⟨bx, 0, none⟩)] ∧ ([⟨b1, 9, [.string (B l)]⟩] : List LB) = [⟨bx, 9, [.string (B l)]⟩]
  exact ⟨_, rfl, rfl⟩

end Go.YtmfkmoecbnghhaaDoor
