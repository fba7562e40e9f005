/- A function that is ranged over: where it calls yield. -/
import Derived.Test.YtmfkmoecbnghhaaDoorEngP
namespace Go.YtmfkmoecbnghhaaDoor
namespace Eng

section
variable {P : Program} {T : Tab} {n : NN} {ops : Array Oper} {Q : Exit → Act → World → Prop} {X S0 : Nat → Prop} {w0 : World} {S : Nat → Prop} {wr : World} {st : St} {K : Exit → Act → World → Prop}

theorem oper_inW {o : Oper} {a : Act} {w : World} {next next' : Act → World → Prop} (_hd : ∀ c, o.op ≠ .defer c) (hn : ∀ a w, next a w → next' a w) (h : o.wp P a w next Q) : o.wpIn Fence.wide 0 P a w next' Q := by
  refine ⟨fun _ _ => trivial, ?_⟩
  have e : o.semAt Fence.wide.round a.eval = execOp a.eval o := Oper.semAt_none a.eval o
  rw [e]
  unfold Oper.wp at h
  generalize (execOp a.eval o).run P w = r at h
  match r, h with
  | .ok (.value v) w', h => exact hn _ _ h
  | .ok .skip w', h => exact hn _ _ h
  | .ok (.defer d) w', h => exact hn _ _ h
  | .ok (.enter f args) w', h =>
    refine ⟨fun hx => absurd hx (by simp [Fence.wide]), callsIn_wide.2 (h.mono fun e w'' he => ?_)⟩
    cases e with
    | returned v => exact hn _ _ he
    | panicked c => exact he
    | outgrown => exact he
  | .ok (.row row args) w', h =>
    exact ⟨fun hx => absurd hx (by simp [Fence.wide]), rowsIn_wide (h.mono fun v w'' hv => hn _ _ hv)⟩
  | .halt (.panic v) w', h => exact h

/-- The region that calls yield: its value is copied, what it is handed is copied, the call, and 'not' of what it says. -/
theorem VC_yield {id t0 t3 d0 d1 d2 d3 ty0 ty1 ty2 ty3 ty4 l : Nat} {p0 p1 p2 p3 : String} {e0 e1 e2 e3 : Array Edge} {tys : Array TypeId} {x : Value}
    (h0 : look st.m t0 = some (.func (.yield l) #[] #[])) (h3 : look st.m t3 = some x) (hn : (Nat.blt d0 n && Nat.blt d1 n && Nat.blt d2 n && Nat.blt d3 n) = true) (hne : d1 ≠ d0) (hne2 : d0 ≠ t3)
    (h : ∀ wa, Inv X S0 w0 S wr st.l wa → ∃ fn tmps assign body, (Instr.yield l #[x]).run P wa = .ok (.round l fn tmps assign body) wa ∧
      RoundIn Fence.wide 0 P l fn tmps assign body wa fun e w' => ∃ b : Bool, e = .returned (.bool b) ∧ ∃ S' wr' l', Inv X S0 w0 S' wr' l' w' ∧ KE n .normal K X S0 w0 S' wr' ⟨(d3, .bool (!b)) :: st.m.filter (fun p => decide (p.1 ≠ d0 ∧ p.1 ≠ d1 ∧ p.1 ≠ d2)), l'⟩) :
    VC P n (.region id #[⟨some d0, .move (.tmp t0), ty0, p0, e0, none⟩, ⟨some d1, .move (.tmp t3), ty1, p1, e1, none⟩, ⟨some d2, .call ⟨.value (.tmp d0), #[.tmp d1], tys⟩, ty2, p2, e2, none⟩, ⟨some d3, .unOp .not ty3 (.tmp d2), ty4, p3, e3, none⟩] false) K X S0 w0 S wr st := by
  intro a wa hA hI
  refine wpIn_wide.1 (wpIn_region (n := 0) ?_)
  simp only [Bool.and_eq_true] at hn
  have n0 := Nat.le_of_ble_eq_true hn.1.1.1
  have n1 := Nat.le_of_ble_eq_true hn.1.1.2
  have n2 := Nat.le_of_ble_eq_true hn.1.2
  have n3 := Nat.le_of_ble_eq_true hn.2
  have hA0 := hA.put (d := some d0) (v := .func (.yield l) #[] #[]) (fun t e => by cases e; exact n0)
  have hA1 := hA0.put (d := some d1) (v := x) (fun t e => by cases e; exact n1)
  have hx1 : ev (Eng.put st.m (some d0) (.func (.yield l) #[] #[])) (.tmp t3) = some x := by
    show look ((d0, _) :: st.m) t3 = _
    rw [look_put, if_neg hne2]; exact h3
  have hf : ev (Eng.put (Eng.put st.m (some d0) (.func (.yield l) #[] #[])) (some d1) x) (.tmp d0) = some (.func (.yield l) #[] #[]) := by
    show look ((d1, _) :: (d0, _) :: st.m) d0 = _
    rw [look_put, if_neg hne, look_put, if_pos rfl]
  have hxx : ev (Eng.put (Eng.put st.m (some d0) (.func (.yield l) #[] #[])) (some d1) x) (.tmp d1) = some x := by
    show look ((d1, _) :: (d0, _) :: st.m) d1 = _
    rw [look_put, if_pos rfl]
  obtain ⟨fn, tmps, assign, body, hy, hR⟩ := h wa hI
  show wpOpsIn Fence.wide 0 P _ K [0, 1, 2, 3] a wa
  rw [wpOpsIn_cons]
  refine oper_inW (o := ⟨some d0, .move (.tmp t0), ty0, p0, e0, none⟩) (next := _) (fun c e => by cases e) (fun _ _ h => h) ?_
  unfold Oper.wp
  simp only [execOp, ev_eval hA (x := .tmp t0) h0, Sem.run_pure, Oper.upon]
  rw [wpOpsIn_cons]
  refine oper_inW (o := ⟨some d1, .move (.tmp t3), ty1, p1, e1, none⟩) (next := _) (fun c e => by cases e) (fun _ _ h => h) ?_
  unfold Oper.wp
  simp only [execOp, ev_eval hA0 hx1, Sem.run_pure, Oper.upon]
  rw [wpOpsIn_cons]
  refine ⟨fun _ _ => trivial, ?_⟩
  have hs : ((Oper.semAt Fence.wide.round ((a.put (some d0) (.func (.yield l) #[] #[])).put (some d1) x).eval ⟨some d2, .call ⟨.value (.tmp d0), #[.tmp d1], tys⟩, ty2, p2, e2, none⟩)).run P wa = .ok (.round l fn tmps assign body) wa := by
    rw [show Fence.wide.round = none from rfl, Oper.semAt_none]
    simp only [execOp, resolve, invoke, Sem.run_bind, Sem.run_pure, Result.andThen_ok, List.map_toArray, List.map_cons, List.map_nil, ev_eval hA1 hf, ev_eval hA1 hxx, Deferred.ofValue]
    simpa using hy
  show Oper.uponIn Fence.wide 0 P ⟨some d2, .call ⟨.value (.tmp d0), #[.tmp d1], tys⟩, ty2, p2, e2, none⟩ _ _ K (Sem.run P (Oper.semAt Fence.wide.round _ ⟨some d2, .call ⟨.value (.tmp d0), #[.tmp d1], tys⟩, ty2, p2, e2, none⟩) wa)
  rw [hs]
  refine ⟨fun hx => absurd hx (by simp [Fence.wide]), hR.mono ?_⟩
  rintro e w' ⟨b, rfl, S', wr', l', hI', hk⟩
  have hA2 := hA1.put (d := some d2) (v := .bool b) (fun t e => by cases e; exact n2)
  have hA3 := hA2.put (d := some d3) (v := .bool (!b)) (fun t e => by cases e; exact n3)
  show wpOpsIn Fence.wide 0 P _ K [3] _ w'
  rw [wpOpsIn_cons]
  refine oper_inW (o := ⟨some d3, .unOp .not ty3 (.tmp d2), ty4, p3, e3, none⟩) (next := _) (fun c e => by cases e) (fun _ _ h => h) ?_
  have hb : ev (Eng.put (Eng.put (Eng.put st.m (some d0) (.func (.yield l) #[] #[])) (some d1) x) (some d2) (.bool b)) (.tmp d2) = some (.bool b) := by
    show look ((d2, _) :: _) d2 = _
    rw [look_put, if_pos rfl]
  unfold Oper.wp
  simp only [execOp, ev_eval hA2 hb, Op.unary, Sem.run_bind, Sem.run_pure, Result.andThen_ok, Oper.upon]
  show K .normal _ w'
  refine hk _ w' ⟨hA3.size, hA3.defers, fun t v ht => hA3.at' t v ?_⟩ hI'
  simp only [look_put] at ht
  show look ((d3, _) :: (d2, _) :: (d1, _) :: (d0, _) :: st.m) t = _
  rw [look_put]
  by_cases h3' : d3 = t
  · rw [if_pos h3'] at ht ⊢; exact ht
  · rw [if_neg h3'] at ht ⊢
    have key : ∀ (m : Mp), look (m.filter fun p => decide (p.1 ≠ d0 ∧ p.1 ≠ d1 ∧ p.1 ≠ d2)) t = some v → t ≠ d0 ∧ t ≠ d1 ∧ t ≠ d2 ∧ look m t = some v := by
      intro m
      induction m with
      | nil => intro h; cases h
      | cons p m ih =>
        obtain ⟨k, u⟩ := p
        intro h
        rw [List.filter_cons] at h
        split at h
        · rename_i hk
          rw [look_put] at h
          by_cases e : k = t
          · subst e
            rw [if_pos rfl] at h
            have := of_decide_eq_true hk
            refine ⟨this.1, this.2.1, this.2.2, ?_⟩
            rw [look_put, if_pos rfl]; exact h
          · rw [if_neg e] at h
            obtain ⟨a1, a2, a3, a4⟩ := ih h
            refine ⟨a1, a2, a3, ?_⟩
            rw [look_put, if_neg e]; exact a4
        · obtain ⟨a1, a2, a3, a4⟩ := ih h
          refine ⟨a1, a2, a3, ?_⟩
          rename_i hk
          rw [look_put]
          by_cases e : k = t
          · subst e
            exact absurd (decide_eq_true ⟨a1, a2, a3⟩) hk
          · rw [if_neg e]; exact a4
    obtain ⟨a1, a2, a3, a4⟩ := key st.m ht
    rw [look_put, if_neg (Ne.symm a3), look_put, if_neg (Ne.symm a2), look_put, if_neg (Ne.symm a1)]
    exact a4

end
end Eng
end Go.YtmfkmoecbnghhaaDoor
