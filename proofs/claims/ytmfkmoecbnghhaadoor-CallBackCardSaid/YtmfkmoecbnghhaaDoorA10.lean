/- Contracts of functions, over the symbolic executor: each comes to what its theorem says. Written by gen.py, a program of this work. -/
import Derived.Test.YtmfkmoecbnghhaaDoorA9
import Derived.Test.YtmfkmoecbnghhaaDoorEngO
import Derived.Shelf.Strings.Builder1
namespace Go.YtmfkmoecbnghhaaDoor
open Go Eng Go.Proofs Law Go.RowKit
set_option linter.unusedVariables false
set_option linter.unusedSimpArgs false

def ren240 : Shelf.Ren := ⟨fun | 240 => 37 | 276 => 43 | x => x, fun | 0 => 0 | 4 => 4 | 9 => 9 | 20 => 20 | 37 => 49 | 70 => 48 | 72 => 51 | 164 => 79 | x => x, fun x => x⟩
theorem lay240 : Lays.n240 Tryd.prog ren240 := {
  mixed := MIX
  f240 := by kernel_rfl
  f276 := by kernel_rfl
  t0 := Tryd.underlying0
  a0 := Tryd.isAgg0
  z0 := Tryd.sizeOf0
  v0 := Tryd.zeroValue0
  t4 := Tryd.underlying4
  a4 := Tryd.isAgg4
  z4 := Tryd.sizeOf4
  v4 := Tryd.zeroValue4
  t9 := Tryd.underlying9
  a9 := Tryd.isAgg9
  z9 := Tryd.sizeOf9
  v9 := Tryd.zeroValue9
  t20 := Tryd.underlying20
  a20 := Tryd.isAgg20
  z20 := Tryd.sizeOf20
  v20 := Tryd.zeroValue20
  t70 := Tryd.underlying48
  a70 := Tryd.isAgg48
  z70 := Tryd.sizeOf48
  v70 := Tryd.zeroValue48
  t72 := Tryd.underlying51
  a72 := Tryd.isAgg51
  z72 := Tryd.sizeOf51
  v72 := Tryd.zeroValue51
  t164 := Tryd.underlying79
  a164 := Tryd.isAgg79
  z164 := Tryd.sizeOf79
  v164 := Tryd.zeroValue79 }
theorem x72 : Builder.X72 Tryd.prog ren240 := {
  sizeBuilder := by kernel_rfl
  liesBuilder := by kernel_rfl }

theorem c37 (b : Nat) (p sl : Value) (S : Nat → Prop) (w : World) (hP : Pre S w [⟨b, 51, [p, sl]⟩]) (hp : p = .pointer none ∨ p = .pointer (some ⟨b, 0, none⟩)) :
    Calls Tryd.prog 37 #[.pointer (some ⟨b, 0, none⟩)] w (Ret S w [⟨b, 51, [p, sl]⟩] fun v ls S w => v = .tuple #[] ∧ ls = [⟨b, 51, [.pointer (some ⟨b, 0, none⟩), sl]⟩]) := by
  have hb := hP.own ⟨b, 51, [p, sl]⟩ (by simp)
  simp only at hb
  have hS := hP.sep ⟨b, 51, [p, sl]⟩ (by simp)
  have hblt : b < w.heap.size := by
    rcases Nat.lt_or_ge b w.heap.size with h | h
    · exact h
    · rw [Array.getElem?_eq_none h] at hb; cases hb
  rcases hp with rfl | rfl
  · refine (Any.Builder_copyCheck_fresh lay240 x72 b w (by rw [cell_of hb]; rfl) (by simp [World.shape?, hb]; rfl) (by simp [World.frozen?, hb])).mono ?_
    rintro e w' ⟨rfl, rfl⟩
    have hw := wrote_setCell (o := 0) (v := .pointer (some ⟨b, 0, none⟩)) hb
    refine ⟨_, S, [⟨b, 51, [.pointer (some ⟨b, 0, none⟩), sl]⟩], rfl, ⟨hw.os, hw.tape, hw.output, by rw [hw.size]; exact Nat.le_refl _, fun k _ hk => hw.other k fun e => hk ⟨⟨b, 51, [.pointer none, sl]⟩, by simp, e⟩⟩,
      ⟨fun _ h => h, fun k hk => hw.other k fun e => hS (e ▸ hk)⟩, fun _ h => .inl h, fun k hk => by rw [hw.size]; exact hP.lt k hk, ⟨(by simp), fun lb hl => ?_, fun lb hl => ?_⟩, fun lb hl => ?_, rfl, rfl⟩ <;>
      simp only [List.mem_singleton] at hl <;> subst hl
    · exact .inl ⟨⟨b, 51, [.pointer none, sl]⟩, by simp, rfl⟩
    · exact hS
    · exact hw.this
  · refine (Any.Builder_copyCheck_used lay240 x72 b w (by rw [cell_of hb]; rfl)).mono ?_
    rintro e w' ⟨rfl, rfl⟩
    refine ⟨_, S, [⟨b, 51, [.pointer (some ⟨b, 0, none⟩), sl]⟩], rfl, Keep.refl _ _, Ext.refl _ _, fun _ h => .inl h, hP.lt, ⟨(by simp), fun lb hl => ?_, fun lb hl => ?_⟩, fun lb hl => ?_, rfl, rfl⟩ <;>
      simp only [List.mem_singleton] at hl <;> subst hl
    · exact .inl ⟨⟨b, 51, [.pointer (some ⟨b, 0, none⟩), sl]⟩, by simp, rfl⟩
    · exact hS
    · exact hb

end Go.YtmfkmoecbnghhaaDoor
