/- A walk that protects every block but its own: over a base world without blocks. -/
import Derived.Test.YtmfkmoecbnghhaaDoorEngQ
namespace Go.YtmfkmoecbnghhaaDoor
namespace Eng

/-- The base world: nothing lies there. -/
def bare (w : World) : World := { w with heap := #[] }

/-- w' is w but for block b, and new blocks. -/
structure But (b : Nat) (w w' : World) : Prop where
  os : w'.os = w.os
  tape : w'.tape = w.tape
  output : w'.output = w.output
  size : w.heap.size ≤ w'.heap.size
  block : ∀ k, k < w.heap.size → k ≠ b → w'.heap[k]? = w.heap[k]?

abbrev XT : Nat → Prop := fun _ => True
abbrev S00 : Nat → Prop := fun _ => False

def AllBut (b : Nat) (w : World) (k : Nat) : Prop := k < w.heap.size ∧ k ≠ b

section
variable {P : Program} {T : Tab} {n : NN} {K : Exit → Act → World → Prop} {S : Nat → Prop} {wr : World} {st : St} {w0 : World}

theorem inv_bare {w w' : World} {b ty : Nat} {cs : List Value} (ho : w'.os = w.os) (ht : w'.tape = w.tape) (hu : w'.output = w.output) (hb : w'.heap[b]? = some (.cells cs.toArray ty (0, 0))) : Inv XT S00 (bare w) (AllBut b w') w' [⟨b, ty, cs⟩] w' := by
  refine ⟨fun lb hl => ?_, by simp, fun lb hl => ?_, fun _ _ => rfl, fun k hk => hk.1, ⟨fun _ h => h.elim, fun _ h => h.elim⟩, fun k _ => .inr (Nat.zero_le _), ⟨ho, ht, hu, Nat.zero_le _, fun k hk => by simp [bare] at hk⟩, fun _ _ => .inr trivial⟩
  · simp only [List.mem_singleton] at hl; subst hl; exact hb
  · simp only [List.mem_singleton] at hl; subst hl; exact fun h => h.2 rfl

/-- What stands is all but one's own block. -/
theorem but_of {b : Nat} {l : List LB} {S1 : Nat → Prop} {wa w1 : World} (hI : Inv XT S00 w0 S wr l wa) (hx : Ext S1 w1 S wr) (hS : ∀ k, k < w1.heap.size → k ≠ b → S1 k) (hown : ∃ lb ∈ l, lb.id = b) (h1 : w1.os = w0.os) (h2 : w1.tape = w0.tape) (h3 : w1.output = w0.output) : But b w1 wa := by
  have hx2 := hx.trans hI.toExt
  refine ⟨hI.base.os.trans h1.symm, hI.base.tape.trans h2.symm, hI.base.output.trans h3.symm, ?_, fun k hk hne => hx2.same k (hS k hk hne)⟩
  obtain ⟨lb, hl, rfl⟩ := hown
  have hlt := hI.id_lt hl
  rcases Nat.lt_or_ge wa.heap.size w1.heap.size with h | h
  · exfalso
    have := hI.lt wa.heap.size (hx.sub _ (hS _ h (by omega)))
    omega
  · exact h

theorem KE_fin {nn : Nat} {fn : Func} {R : Ending → World → Prop} {X S0 : Nat → Prop} (hT : TabOK P T) (hs : List Nat) (vs : List Value) (xs : List Nat)
    (he : evRes T st fn.results.toList hs = some (vs, xs, xs)) (h : ∀ wa, Inv X S0 w0 S wr st.l wa → R (.returned (tupled vs)) wa) : KE ⟨nn, []⟩ .normal (bodyPost P fn R) X S0 w0 S wr st :=
  fun _ wa hA hI => ⟨hA.defers, _, run_results hT hA hI.own he, h wa hI⟩

theorem VC_fin {nn : Nat} {fn : Func} {R : Ending → World → Prop} {X S0 : Nat → Prop} [hB : Bottom K (bodyPost P fn R)] (hT : TabOK P T) (hs : List Nat) (vs : List Value) (xs : List Nat)
    (he : evRes T st fn.results.toList hs = some (vs, xs, xs)) (h : ∀ wa, Inv X S0 w0 S wr st.l wa → R (.returned (tupled vs)) wa) : VC P ⟨nn, []⟩ .ret K X S0 w0 S wr st :=
  fun a wa hA hI => wp_ret (hB.ret a wa ⟨hA.defers, _, run_results hT hA hI.own he, h wa hI⟩)

/-- A function, from what is known when it is entered. -/
theorem Calls_of_VCg {f : FuncId} {fn : Func} {c : Code} {args : List Value} {R : Ending → World → Prop} {X S0 : Nat → Prop} (st : St)
    (hf : P.funcs[f]? = some fn) (hb : fn.body = some c) (hst : (List.range args.length).zip args = st.m) (hn : Nat.ble args.length fn.ntmps = true) {w : World} (hI : Inv X S0 w0 S w st.l w)
    (h : VC P ⟨fn.ntmps, []⟩ c (bodyPost P fn R) X S0 w0 S w st) : Calls P f args.toArray w R := by
  have hn' := Nat.le_of_ble_eq_true hn
  refine calls_of_wp hf hb (h _ w ⟨by simp; omega, rfl, fun t v e => ?_⟩ hI)
  rw [← hst] at e
  have key : ∀ (l : List Value) (k : Nat), look ((List.range' k l.length).zip l) t = some v → k ≤ t ∧ l[t - k]? = some v := by
    intro l
    induction l with
    | nil => intro k e; simp [look] at e
    | cons x r ih =>
      intro k e
      simp only [List.length_cons, List.range'_succ, List.zip_cons_cons, look_put] at e
      by_cases hk : k = t
      · subst hk
        rw [if_pos rfl] at e
        simp only [Option.some.injEq] at e
        subst e
        simp
      · rw [if_neg hk] at e
        obtain ⟨h1, h2⟩ := ih (k + 1) e
        refine ⟨by omega, ?_⟩
        rw [show t - k = (t - (k + 1)) + 1 from by omega, List.getElem?_cons_succ]
        exact h2
  rw [List.range_eq_range'] at e
  have := (key args 0 e).2
  rw [Nat.sub_zero] at this
  have hlt := (List.getElem?_eq_some_iff.1 this).1
  rw [Array.getElem?_append_left (by simpa using hlt)]
  simpa using this

end
end Eng
end Go.YtmfkmoecbnghhaaDoor
