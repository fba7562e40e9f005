/- A row is written no more, within a region; what a function comes to, told otherwise. -/
import Derived.Test.YtmfkmoecbnghhaaDoorEngU
namespace Go.YtmfkmoecbnghhaaDoor
namespace Eng

section
variable {P : Program} {T : Tab} {n : NN} {ops : Array Oper} {Q : Exit → Act → World → Prop} {X S0 : Nat → Prop} {w0 : World} {S : Nat → Prop} {wr : World} {st : St} {K : Exit → Act → World → Prop}

theorem RV_freeze1 {c k e : Nat} {v : Sl} {xs : List Value} {size : Nat} (pre tl : List LB) (hl : st.l = pre ++ tl) (hrow : RowOK e size v xs tl) (hm : ∀ lb ∈ tl, ¬ X lb.id)
    (h : ∀ S1 w1, Ext S wr S1 w1 → (∀ {α : Type} (E : Enc α) (ys : List α), E.n = size → v.n = ys.length → Reads E S1 w1 xs ys → RSl E S1 w1 v ys) → RV P n ops Q X S0 w0 c k S1 w1 ⟨st.m, pre⟩) : RV P n ops Q X S0 w0 c k S wr st := by
  intro a wa hA hI
  rw [hl, ← List.append_nil (pre ++ tl)] at hI
  have hf := hI.freezeRow hrow hm
  rw [List.append_nil] at hf
  refine h (fun b => S b ∨ ∃ lb ∈ tl, b = lb.id) wa ⟨fun b hb => .inl hb, hI.ref⟩ (fun E ys he hn hr => ?_) a wa hA hf
  subst he
  exact hrow.rsl (fun lb hl => .inr ⟨lb, hl, rfl⟩) (fun lb hl => hI.own lb (by simp [hl])) hn hr

theorem Ret.mono {ls : List LB} {R R' : Value → List LB → (Nat → Prop) → World → Prop} {e : Ending} {w' : World} (h : Ret S0 w0 ls R e w') (hr : ∀ v ls' S' w', R v ls' S' w' → R' v ls' S' w') : Ret S0 w0 ls R' e w' := by
  obtain ⟨v, S', ls', h1, h2, h3, h4, h5, h6, h7, h8⟩ := h
  exact ⟨v, S', ls', h1, h2, h3, h4, h5, h6, h7, hr _ _ _ _ h8⟩

theorem Calls.retMono {f : FuncId} {args : Array Value} {w : World} {ls : List LB} {R R' : Value → List LB → (Nat → Prop) → World → Prop} (h : Calls P f args w (Ret S w ls R)) (hr : ∀ v ls' S' w', R v ls' S' w' → R' v ls' S' w') : Calls P f args w (Ret S w ls R') :=
  h.mono fun _ _ k => Ret.mono k hr

end
end Eng
end Go.YtmfkmoecbnghhaaDoor
