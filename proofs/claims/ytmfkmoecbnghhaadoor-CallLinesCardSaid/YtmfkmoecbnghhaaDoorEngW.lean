/- What an argument reads as, out of the form's own reading. -/
import Derived.Test.YtmfkmoecbnghhaaDoorEngV
import Derived.Deep.Slices
import Derived.ChangeSame
import Derived.ChangeArms
namespace Go.YtmfkmoecbnghhaaDoor
namespace Eng
open Go.ChangeShapes Go.WideShapes Go.Deep

/-- Whatever is read as of type t is what E tells. -/
def Opens (P : Program) (t : TypeId) {α : Type} (E : Enc α) : Prop :=
  ∀ {H : Type} (enc : TypeId × Value → H) (w : World) (base : Nat) (held : Bool) (fuel : Nat) (cs : List Value) (x : DataW H × List MemPlace),
    DataW.trod enc P w base (fun _ => true) held fuel t cs = some x → ∃ a, E.rep (fun b => b < w.heap.size) w cs a

theorem list_of {α : Type} {Q : Nat → α → Prop} : ∀ {n : Nat}, (∀ i, i < n → ∃ a, Q i a) → ∃ l : List α, l.length = n ∧ ∀ i (h : i < l.length), Q i l[i]
  | 0, _ => ⟨[], rfl, fun _ h => by simp at h⟩
  | n + 1, h => by
    obtain ⟨l, hl, hq⟩ := list_of (Q := Q) (n := n) fun i hi => h i (by omega)
    obtain ⟨a, ha⟩ := h n (by omega)
    refine ⟨l ++ [a], by simp [hl], fun i hi => ?_⟩
    rcases Nat.lt_or_ge i l.length with h1 | h1
    · rw [List.getElem_append_left h1]; exact hq i h1
    · have : i = n := by simp at hi; omega
      subst this
      rw [List.getElem_append_right h1]
      simpa [hl] using ha

theorem Opens.slice {P : Program} {t e : TypeId} {α : Type} {E : Enc α} (h : Opens P e E) (ht : P.underlying t = some (.slice e)) (hC : P.cellsOf e = E.n) (hn : 0 < E.n)
    {H : Type} {enc : TypeId × Value → H} {w : World} {base : Nat} {held : Bool} {fuel : Nat} {cs : List Value} {x : DataW H × List MemPlace} (hx : DataW.trod enc P w base (fun _ => true) held fuel t cs = some x) :
    ∃ (v : Sl) (xs : List α), cs = [.slice v.a v.n v.c] ∧ RSl E (fun b => b < w.heap.size) w v xs := by
  rcases open_slice ht hx with ⟨rfl, _⟩ | ⟨a, len, cap, m, n, D, Pl, hcs, hb, hl, hm, hmm, _, hi⟩
  · exact ⟨⟨none, 0, 0⟩, [], rfl, RSl.nil E _ _⟩
  simp only [if_true] at hmm
  subst hmm
  obtain ⟨l, hll, hq⟩ := list_of (Q := fun i y => ∃ vs, E.rep (fun b => b < w.heap.size) w vs y ∧ ∀ j (hj : j < vs.length), w.cell? ((a.add (i * E.n)).add j) = some vs[j]) (n := len) fun i hil => by
    obtain ⟨cs', hc, ht'⟩ := hi i (by omega)
    obtain ⟨y, hy⟩ := h enc w base held n cs' _ ht'
    obtain ⟨_, hlen, hat⟩ := World.cells?_some hc
    rw [hC] at hlen hat
    exact ⟨y, cs', hy, fun j hj => by rw [hat j (by omega)]; exact List.getElem?_eq_getElem hj⟩
  refine ⟨⟨some a, len, m⟩, l, hcs, ⟨hll.symm, hl, ?_⟩⟩
  rcases Nat.eq_zero_or_pos m with h0 | h0
  · exact .inl h0
  right
  have hcell : ∀ k, k < m * E.n → ∃ v, w.cell? (a.add k) = some v := fun k hk => by
    have hk1 : k / E.n < m := by rw [Nat.div_lt_iff_lt_mul hn]; exact hk
    obtain ⟨cs', hc, ht'⟩ := hi (k / E.n) hk1
    obtain ⟨_, hlen, hat⟩ := World.cells?_some hc
    rw [hC] at hlen hat
    have h3 := Nat.mod_lt k hn
    have h2 := hat (k % E.n) h3
    rw [Go.Deep.add_add, show k / E.n * E.n + k % E.n = k from Nat.div_add_mod' k E.n, List.getElem?_eq_getElem (by omega)] at h2
    exact ⟨_, h2⟩
  obtain ⟨b, o, s⟩ := a
  have hpos : 0 < m * E.n := Nat.mul_pos h0 hn
  obtain ⟨v0, hv0⟩ := hcell 0 hpos
  obtain ⟨c, ty, fr, hheap, hs⟩ : ∃ c ty fr, w.heap[b]? = some (.cells c ty fr) ∧ s = none := by
    unfold World.cell? at hv0
    split at hv0
    · rename_i c ty fr hh
      split at hv0
      · cases hv0
      · rename_i hsp
        have hs : s = none := by
          cases s with
          | none => rfl
          | some _ => simp [Addr.add] at hsp
        exact ⟨c, ty, fr, by simpa [Addr.add] using hh, hs⟩
    · cases hv0
  subst hs
  refine ⟨b, o, c, ty, fr, rfl, heap_lt hheap, hheap, ?_, fun i hi2 => ?_⟩
  · obtain ⟨v1, hv1⟩ := hcell (m * E.n - 1) (by omega)
    rw [addr_add, cell_of hheap] at hv1
    have := (Array.getElem?_eq_some_iff.1 hv1).1
    simp only
    omega
  · obtain ⟨vs, hr, hat⟩ := hq i hi2
    refine ⟨vs, ?_, hr⟩
    have hlen := E.len hr
    have hsz : o + m * E.n ≤ c.size := by
      obtain ⟨v1, hv1⟩ := hcell (m * E.n - 1) (by omega)
      rw [addr_add, cell_of hheap] at hv1
      have := (Array.getElem?_eq_some_iff.1 hv1).1
      omega
    have him : (i + 1) * E.n ≤ m * E.n := Nat.mul_le_mul_right _ (by omega)
    rw [Nat.add_mul] at him
    apply List.ext_getElem
    · rw [List.length_take, List.length_drop, List.length_drop, Array.length_toList]; omega
    · intro j h1 h2
      rw [List.getElem_take, List.getElem_drop, List.getElem_drop]
      have h3 := hat j h2
      rw [addr_add, addr_add, cell_of hheap] at h3
      have h4 := (Array.getElem?_eq_some_iff.1 h3).2
      simp only [Array.getElem_toList]
      rw [← h4]
      congr 1
      omega

theorem Opens.int {P : Program} {t : TypeId} (ht : P.underlying t = some (.int .i64)) : Opens P t intE := by
  intro H enc w base held fuel cs x hx
  obtain ⟨k, e1, _, e3⟩ := DataW.trod_int ht hx
  refine ⟨k, e1, ?_⟩
  simp only [Lit.wf, Bool.and_eq_true, decide_eq_true_eq] at e3
  exact e3

theorem Pre.all (w : World) : Pre (fun b => b < w.heap.size) w [] := ⟨fun _ h => h, (fun _ h => (List.not_mem_nil h).elim), List.Pairwise.nil, (fun _ h => (List.not_mem_nil h).elim)⟩

theorem Keep.below {w w' : World} (h : Keep (idsOf []) w w') : Go.RowKit.Below w.heap.size w w' :=
  ⟨h.os, h.tape, h.output, h.size, fun k hk => h.block k hk (fun ⟨_, h1, _⟩ => (List.not_mem_nil h1).elim)⟩

end Eng
end Go.YtmfkmoecbnghhaaDoor
