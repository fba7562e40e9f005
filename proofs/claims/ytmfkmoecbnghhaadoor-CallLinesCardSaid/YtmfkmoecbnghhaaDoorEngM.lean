/- Errors against nil; own blocks in another order; what the library's contracts say, in the executor's words. -/
import Derived.Test.YtmfkmoecbnghhaaDoorEngL
import Derived.WideLaws
namespace Go.YtmfkmoecbnghhaaDoor
namespace Eng
open Go.RowKit

section
variable {P : Program} {T : Tab} {n : NN} {ops : Array Oper} {Q : Exit → Act → World → Prop} {X S0 : Nat → Prop} {w0 : World} {S : Nat → Prop} {wr : World} {st : St} {K : Exit → Act → World → Prop}

def nilV (t0 : Nat) (m : Mp) (o : Op) : Option (Value × List Nat × List Nat) :=
  match o with
  | .binOp .eql t x (.const .nilIface) _ => bif Nat.beq t t0 then match ev m x with
    | some .nilIface => some (.bool true, [], [])
    | some (.iface _ _) => some (.bool false, [], [])
    | _ => none
    else none
  | .binOp .neq t x (.const .nilIface) _ => bif Nat.beq t t0 then match ev m x with
    | some .nilIface => some (.bool false, [], [])
    | some (.iface _ _) => some (.bool true, [], [])
    | _ => none
    else none
  | _ => none

theorem run_nil {t0 : Nat} (hu : P.underlying t0 = some (.interface (P.methodsAt t0))) {o : Oper} {v : Value} {xs : List Nat} {a : Act} {wa : World} {m : Mp} (h : nilV t0 m o.op = some (v, xs, xs)) (hA : Agree n a m) : (execOp a.eval o).run P wa = .ok (.value v) wa := by
  obtain ⟨dst, op, type, pos, after, guard⟩ := o
  simp only at h
  unfold nilV at h
  split at h
  · rename_i t x y
    by_cases ht : Nat.beq t t0 = true
    · rw [ht] at h
      simp only [cond_true] at h
      have := Nat.eq_of_beq_eq_true ht
      subst this
      split at h
      · rename_i hx
        simp only [Option.some.injEq, Prod.mk.injEq] at h
        obtain ⟨rfl, _⟩ := h
        have h2 : ev m (.const .nilIface) = some .nilIface := rfl
        have hg : (eqGuard .eql t x (.const .nilIface) .nilIface .nilIface).run P wa = .ok () wa := by simp [eqGuard]
        have h1 := run_equal_nil_nil (P := P) wa t hu
        have h3 : (binOp .eql t .nilIface .nilIface).run P wa = .ok (.bool true) wa := by simp [binOp, h1]
        simp only [execOp, ev_eval hA hx, ev_eval hA h2, Sem.run_bind, hg, Result.andThen_ok, h3, Sem.run_pure]
      · rename_i tx vx hx
        simp only [Option.some.injEq, Prod.mk.injEq] at h
        obtain ⟨rfl, _⟩ := h
        have h2 : ev m (.const .nilIface) = some .nilIface := rfl
        have hg : (eqGuard .eql t x (.const .nilIface) (.iface tx vx) .nilIface).run P wa = .ok () wa := by simp [eqGuard]
        have h1 := run_equal_held_nil (P := P) wa t tx vx hu
        have h3 : (binOp .eql t (.iface tx vx) .nilIface).run P wa = .ok (.bool false) wa := by simp [binOp, h1]
        simp only [execOp, ev_eval hA hx, ev_eval hA h2, Sem.run_bind, hg, Result.andThen_ok, h3, Sem.run_pure]
      · cases h
    · rw [Bool.not_eq_true] at ht
      rw [ht] at h; cases h
  · rename_i t x y
    by_cases ht : Nat.beq t t0 = true
    · rw [ht] at h
      simp only [cond_true] at h
      have := Nat.eq_of_beq_eq_true ht
      subst this
      split at h
      · rename_i hx
        simp only [Option.some.injEq, Prod.mk.injEq] at h
        obtain ⟨rfl, _⟩ := h
        have h2 : ev m (.const .nilIface) = some .nilIface := rfl
        have hg : (eqGuard .neq t x (.const .nilIface) .nilIface .nilIface).run P wa = .ok () wa := by simp [eqGuard]
        have h1 := run_equal_nil_nil (P := P) wa t hu
        have h3 : (binOp .neq t .nilIface .nilIface).run P wa = .ok (.bool false) wa := by simp [binOp, h1]
        simp only [execOp, ev_eval hA hx, ev_eval hA h2, Sem.run_bind, hg, Result.andThen_ok, h3, Sem.run_pure]
      · rename_i tx vx hx
        simp only [Option.some.injEq, Prod.mk.injEq] at h
        obtain ⟨rfl, _⟩ := h
        have h2 : ev m (.const .nilIface) = some .nilIface := rfl
        have hg : (eqGuard .neq t x (.const .nilIface) (.iface tx vx) .nilIface).run P wa = .ok () wa := by simp [eqGuard]
        have h1 := run_equal_held_nil (P := P) wa t tx vx hu
        have h3 : (binOp .neq t (.iface tx vx) .nilIface).run P wa = .ok (.bool true) wa := by simp [binOp, h1]
        simp only [execOp, ev_eval hA hx, ev_eval hA h2, Sem.run_bind, hg, Result.andThen_ok, h3, Sem.run_pure]
      · cases h
    · rw [Bool.not_eq_true] at ht
      rw [ht] at h; cases h
  · cases h

theorem perm_front {l : List LB} {i : Nat} {lb : LB} (h : l[i]? = some lb) : l.Perm (lb :: l.eraseIdx i) := by
  have hi := (List.getElem?_eq_some_iff.1 h).1
  have hg := (List.getElem?_eq_some_iff.1 h).2
  have e1 : l = l.take i ++ lb :: l.drop (i + 1) := by
    rw [← hg, List.getElem_cons_drop, List.take_append_drop]
  rw [List.eraseIdx_eq_take_drop_succ]
  conv => lhs; rw [e1]
  exact List.perm_middle

theorem RV_front {c k : Nat} (i : Nat) (lb : LB) (l' : List LB) (h : st.l[i]? = some lb) (hl : lb :: st.l.eraseIdx i = l') (hk : RV P n ops Q X S0 w0 c k S wr ⟨st.m, l'⟩) : RV P n ops Q X S0 w0 c k S wr st := by
  subst hl
  exact fun a wa hA hI => hk a wa hA (hI.perm (perm_front h))

theorem RV_swap {c k : Nat} (x y : List LB) (h : st.l = x ++ y) (hk : RV P n ops Q X S0 w0 c k S wr ⟨st.m, y ++ x⟩) : RV P n ops Q X S0 w0 c k S wr st :=
  fun a wa hA hI => hk a wa hA ((h ▸ hI : Inv X S0 w0 S wr (x ++ y) wa).perm List.perm_append_comm)

theorem RVd_swap {lw : List LB} {Sr : Nat → Prop} {wrr : World} {fuel : Nat} {L : Array Bool} (x y : List LB) (h : st.l = x ++ y) (hk : RVd P n ops Q X S0 w0 lw Sr wrr fuel L S wr ⟨st.m, y ++ x⟩) : RVd P n ops Q X S0 w0 lw Sr wrr fuel L S wr st :=
  fun hx a wa hA hI => hk hx a wa hA ((h ▸ hI : Inv X S0 w0 S wr (x ++ y) wa).perm List.perm_append_comm)

theorem RVd_front {lw : List LB} {Sr : Nat → Prop} {wrr : World} {fuel : Nat} {L : Array Bool} (i : Nat) (lb : LB) (l' : List LB) (h : st.l[i]? = some lb) (hl : lb :: st.l.eraseIdx i = l') (hk : RVd P n ops Q X S0 w0 lw Sr wrr fuel L S wr ⟨st.m, l'⟩) : RVd P n ops Q X S0 w0 lw Sr wrr fuel L S wr st := by
  subst hl
  exact fun hx a wa hA hI => hk hx a wa hA (hI.perm (perm_front h))

theorem VC_front {c : Code} (i : Nat) (lb : LB) (l' : List LB) (h : st.l[i]? = some lb) (hl : lb :: st.l.eraseIdx i = l') (hk : VC P n c K X S0 w0 S wr ⟨st.m, l'⟩) : VC P n c K X S0 w0 S wr st := by
  subst hl
  exact fun a wa hA hI => hk a wa hA (hI.perm (perm_front h))

theorem KE_front {e : Exit} (i : Nat) (lb : LB) (l' : List LB) (h : st.l[i]? = some lb) (hl : lb :: st.l.eraseIdx i = l') (hk : KE n e K X S0 w0 S wr ⟨st.m, l'⟩) : KE n e K X S0 w0 S wr st := by
  subst hl
  exact fun a wa hA hI => hk a wa hA (hI.perm (perm_front h))

/-- A function that writes nothing that was there, and nothing else of the world. -/
theorem Ret_of {w w' : World} {v : Value} {R : Value → List LB → (Nat → Prop) → World → Prop} (hP : Pre S w []) (S' : Nat → Prop) (hb : Below w.heap.size w w') (hs : ∀ b, S b → S' b) (hn : ∀ b, S' b → S b ∨ (w.heap.size ≤ b ∧ b < w'.heap.size)) (hR : R v [] S' w') : Ret S w [] R (.returned v) w' :=
  ⟨v, S', [], rfl, ⟨hb.os, hb.tape, hb.output, hb.size, fun k hk _ => hb.block k hk⟩, ⟨hs, fun b h => hb.block b (hP.lt b h)⟩, fun b h => (hn b h).imp id And.left,
    fun b h => (hn b h).elim (fun h => Nat.lt_of_lt_of_le (hP.lt b h) hb.size) And.right, ⟨List.Pairwise.nil, (fun _ h => (List.not_mem_nil h).elim), (fun _ h => (List.not_mem_nil h).elim)⟩, (fun _ h => (List.not_mem_nil h).elim), hR⟩

theorem Ret_of' {w w' : World} {v : Value} {R : Value → List LB → (Nat → Prop) → World → Prop} (hP : Pre S w []) (hb : Below w.heap.size w w') (hR : R v [] S w') : Ret S w [] R (.returned v) w' :=
  Ret_of hP S hb (fun _ h => h) (fun _ h => .inl h) hR

end
end Eng
end Go.YtmfkmoecbnghhaaDoor
