/- Slices as rows of data: what a slice that nobody writes any more reads as. -/
import Derived.Test.YtmfkmoecbnghhaaDoorEngG
namespace Go.YtmfkmoecbnghhaaDoor
namespace Eng

def InR (x : Int) : Prop := -9223372036854775808 ≤ x ∧ x ≤ 9223372036854775807

theorem InR_wrap (x : Int) : InR (IntKind.i64.wrap x) := by
  rw [IntKind.wrap_i64]
  unfold InR
  omega

theorem wrap_id {x : Int} (h : InR x) : IntKind.i64.wrap x = x := by
  rw [IntKind.wrap_i64]
  unfold InR at h
  omega

structure Sl where
  a : Option Addr
  n : Nat
  c : Nat

structure Enc (α : Type) where
  n : Nat
  rep : (Nat → Prop) → World → List Value → α → Prop
  len : ∀ {S w vs x}, rep S w vs x → vs.length = n
  cell : ∀ {S w vs x}, rep S w vs x → vs.all isCell = true
  mono : ∀ {S w S' w' vs x}, rep S w vs x → Ext S w S' w' → rep S' w' vs x

def intE : Enc Int where
  n := 1
  rep _ _ vs x := vs = [.int .i64 x] ∧ InR x
  len := fun h => by rw [h.1]; rfl
  cell := fun h => by rw [h.1]; rfl
  mono := fun h _ => h

/-- A row of cells reads as a row of data. -/
def Reads {α : Type} (E : Enc α) (S : Nat → Prop) (w : World) (cs : List Value) (xs : List α) : Prop :=
  ∀ i (hi : i < xs.length), ∃ vs, (cs.drop (i * E.n)).take E.n = vs ∧ E.rep S w vs xs[i]

structure RSl {α : Type} (E : Enc α) (S : Nat → Prop) (w : World) (x : Sl) (xs : List α) : Prop where
  n : x.n = xs.length
  c : x.n ≤ x.c
  a : x.c = 0 ∨ ∃ b o cs ty fr, x.a = some ⟨b, o, none⟩ ∧ S b ∧ w.heap[b]? = some (.cells cs ty fr) ∧ o + x.c * E.n ≤ cs.size ∧ Reads E S w (cs.toList.drop o) xs

theorem Reads.ext {α : Type} {E : Enc α} {S S' : Nat → Prop} {w w' : World} {cs : List Value} {xs : List α} (h : Reads E S w cs xs) (hx : Ext S w S' w') : Reads E S' w' cs xs :=
  fun i hi => let ⟨vs, h1, h2⟩ := h i hi; ⟨vs, h1, E.mono h2 hx⟩

theorem RSl.ext {α : Type} {E : Enc α} {S S' : Nat → Prop} {w w' : World} {x : Sl} {xs : List α} (h : RSl E S w x xs) (hx : Ext S w S' w') : RSl E S' w' x xs := by
  refine ⟨h.n, h.c, ?_⟩
  rcases h.a with h1 | ⟨b, o, cs, ty, fr, h1, h2, h3, h4, h5⟩
  · exact .inl h1
  · exact .inr ⟨b, o, cs, ty, fr, h1, hx.sub b h2, (hx.same b h2).trans h3, h4, h5.ext hx⟩

theorem RSl.nil {α : Type} (E : Enc α) (S : Nat → Prop) (w : World) : RSl E S w ⟨none, 0, 0⟩ [] := ⟨rfl, Nat.le_refl _, .inl rfl⟩

/-- An element: where it lies, and its cells. -/
theorem RSl.at {α : Type} {E : Enc α} {S : Nat → Prop} {w : World} {x : Sl} {xs : List α} (h : RSl E S w x xs) (i : Nat) (hi : i < xs.length) :
    ∃ b o vs, x.a = some ⟨b, o, none⟩ ∧ ROS [⟨b, o + i * E.n, vs⟩] S w ∧ E.rep S w vs xs[i] := by
  rcases h.a with h1 | ⟨b, o, cs, ty, fr, h1, h2, h3, h4, h5⟩
  · have := h.n; have := h.c; omega
  · obtain ⟨vs, h6, h7⟩ := h5 i hi
    refine ⟨b, o, vs, h1, ⟨fun rb hr => ?_, fun rb hr k hk => ?_⟩, h7⟩
    · simp only [List.mem_singleton] at hr; subst hr; exact h2
    · simp only [List.mem_singleton] at hr
      subst hr
      simp only at hk ⊢
      rw [cell_of h3]
      have hl := E.len h7
      subst h6
      rw [List.getElem_take, List.getElem_drop, List.getElem_drop]
      rw [List.length_take, List.length_drop, List.length_drop] at hk
      rw [← Array.getElem?_toList, List.getElem?_eq_getElem (by omega)]
      congr 2
      omega

/-- The address, where there is an element. -/
theorem RSl.addr {α : Type} {E : Enc α} {S : Nat → Prop} {w : World} {x : Sl} {xs : List α} (h : RSl E S w x xs) (hn : 0 < xs.length) : ∃ b o, x.a = some ⟨b, o, none⟩ := by
  obtain ⟨b, o, _, h1, _⟩ := h.at 0 hn
  exact ⟨b, o, h1⟩

theorem RSl.inR {S : Nat → Prop} {w : World} {x : Sl} {xs : List Int} (h : RSl intE S w x xs) : ∀ y ∈ xs, InR y := by
  intro y hy
  obtain ⟨i, hi, rfl⟩ := List.mem_iff_getElem.1 hy
  obtain ⟨_, _, _, _, _, h1⟩ := h.at i hi
  exact h1.2

/-- A shorter slice of the same. -/
theorem RSl.take {α : Type} {E : Enc α} {S : Nat → Prop} {w : World} {x : Sl} {xs : List α} (h : RSl E S w x xs) (k : Nat) (hk : k ≤ xs.length) : RSl E S w ⟨x.a, k, x.c⟩ (xs.take k) := by
  refine ⟨by simp; omega, by have := h.n; have := h.c; simp only; omega, ?_⟩
  rcases h.a with h1 | ⟨b, o, cs, ty, fr, h1, h2, h3, h4, h5⟩
  · exact .inl h1
  · refine .inr ⟨b, o, cs, ty, fr, h1, h2, h3, h4, fun i hi => ?_⟩
    rw [List.length_take] at hi
    obtain ⟨vs, h6, h7⟩ := h5 i (by omega)
    exact ⟨vs, h6, by rw [List.getElem_take]; exact h7⟩

/-- An own block that is written no more. -/
theorem RSl.own {α : Type} {E : Enc α} {S : Nat → Prop} {w : World} {b : Nat} {cs : List Value} {ty : TypeId} {fr : Nat × Nat} {xs : List α} {c : Nat} (hS : S b) (hb : w.heap[b]? = some (.cells cs.toArray ty fr))
    (hc : xs.length ≤ c) (hl : c * E.n ≤ cs.length) (hr : Reads E S w cs xs) : RSl E S w ⟨some ⟨b, 0, none⟩, xs.length, c⟩ xs :=
  ⟨rfl, hc, .inr ⟨b, 0, cs.toArray, ty, fr, rfl, hS, hb, by simpa using hl, by simpa using hr⟩⟩

def cellsOf (xs : List Int) : List Value := xs.map (Value.int .i64)

theorem Reads_ints {S : Nat → Prop} {w : World} {xs : List Int} (r : List Value) (h : ∀ y ∈ xs, InR y) : Reads intE S w (cellsOf xs ++ r) xs := by
  intro i hi
  refine ⟨_, rfl, ?_, h _ (List.getElem_mem hi)⟩
  have : i < (cellsOf xs ++ r).length := by simp [cellsOf]; omega
  show ((cellsOf xs ++ r).drop (i * 1)).take 1 = _
  rw [Nat.mul_one, List.drop_eq_getElem_cons this]
  simp [cellsOf, hi]

end Eng
end Go.YtmfkmoecbnghhaaDoor
