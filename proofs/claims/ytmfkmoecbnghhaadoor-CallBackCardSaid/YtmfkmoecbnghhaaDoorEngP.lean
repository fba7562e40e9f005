/- The executor in a round of a range over a function. -/
import Derived.Test.YtmfkmoecbnghhaaDoorEngO
import Derived.OrdersIn
import Derived.RangeFuncCalls
import Derived.RangeFuncIn
import Derived.RangeFuncRecord
namespace Go.YtmfkmoecbnghhaaDoor
namespace Eng

abbrev Rnd (l : Nat) : Fence := Fence.wide.inRound l

theorem rowsIn_wide {n : Nat} {P : Program} {row : String} {args : Array Value} {w : World} {R : Value → World → Prop} (h : Rows P row args w R) : RowsIn Fence.wide n P row args w R :=
  fun c cs _ => let ⟨v, w', r, s⟩ := h c cs; ⟨v, w', r, stepsIn_wide.2 s⟩

def noDefer (ops : Array Oper) : Bool := ops.toList.all fun o => match o.op with | .defer _ => false | _ => true

theorem noDefer_spec {ops : Array Oper} (h : noDefer ops = true) {i : Nat} {o : Oper} (hi : ops[i]? = some o) (c : Call) : o.op ≠ .defer c := by
  intro e
  have hm : o ∈ ops.toList := by
    have := Array.mem_of_getElem? hi
    simpa using this
  have := List.all_eq_true.1 h o hm
  rw [e] at this
  cases this

/-- Nothing lets a run out. -/
class NoOut (K : Exit → Act → World → Prop) : Prop where
  out : ∀ a w, ¬ K .outgrown a w

instance {P : Program} {l : Nat} {R : Ending → World → Prop} : NoOut (roundPost P l R) := ⟨fun _ _ h => h⟩
instance {nx : Act → World → Prop} {K : Exit → Act → World → Prop} [h : NoOut K] : NoOut (Exit.then nx K) := ⟨fun a w => h.out a w⟩
instance {id : Nat} {K : Exit → Act → World → Prop} [h : NoOut K] : NoOut (Exit.inBlock id K) := ⟨fun a w => h.out a w⟩
instance {n : NN} {X S0 : Nat → Prop} {w0 : World} {M : (Nat → Prop) → World → St → Prop} {K : Exit → Act → World → Prop} [h : NoOut K] : NoOut (MeetK n X S0 w0 M K) := ⟨fun a w => h.out a w⟩
instance : NoOut (fun (_ : Exit) (_ : Act) (_ : World) => False) := ⟨fun _ _ h => h⟩

theorem NoOut.no {K : Exit → Act → World → Prop} [h : NoOut K] : ¬ LetsOut K := fun ⟨a, w, k⟩ => h.out a w k

/-- No panic is let by. -/
class NoPanic (K : Exit → Act → World → Prop) : Prop where
  no : ∀ c a w, ¬ K (.panic c) a w

instance {P : Program} {l : Nat} {R : Ending → World → Prop} : NoPanic (roundPost P l R) := ⟨fun _ _ _ h => h⟩
instance {nx : Act → World → Prop} {K : Exit → Act → World → Prop} [h : NoPanic K] : NoPanic (Exit.then nx K) := ⟨fun c a w => h.no c a w⟩
instance {id : Nat} {K : Exit → Act → World → Prop} [h : NoPanic K] : NoPanic (Exit.inBlock id K) := ⟨fun c a w => h.no c a w⟩
instance {n : NN} {X S0 : Nat → Prop} {w0 : World} {M : (Nat → Prop) → World → St → Prop} {K : Exit → Act → World → Prop} [h : NoPanic K] : NoPanic (MeetK n X S0 w0 M K) := ⟨fun c a w => h.no c a w⟩

instance {K : Exit → Act → World → Prop} [h : NoPanic K] : PanicOK K := ⟨fun _ _ c _ w k => absurd k (h.no c _ w)⟩

section
variable {P : Program} {T : Tab} {n : NN} {ops : Array Oper} {Q : Exit → Act → World → Prop} {X S0 : Nat → Prop} {w0 : World} {S : Nat → Prop} {wr : World} {st : St} {K : Exit → Act → World → Prop} {l : Nat}

theorem oper_in {o : Oper} {a : Act} {w : World} {next next' : Act → World → Prop} (hd : ∀ c, o.op ≠ .defer c) (hn : ∀ a w, next a w → next' a w) (h : o.wp P a w next Q) : o.wpIn (Rnd l) 0 P a w next' Q := by
  refine ⟨fun _ _ => trivial, ?_⟩
  have e : o.semAt (Rnd l).round a.eval = execOp a.eval o := Oper.semAt_some l a.eval o hd
  rw [e]
  unfold Oper.wp at h
  generalize (execOp a.eval o).run P w = r at h
  match r, h with
  | .ok (.value v) w', h => exact hn _ _ h
  | .ok .skip w', h => exact hn _ _ h
  | .ok (.defer d) w', h => exact hn _ _ h
  | .ok (.enter f args) w', h =>
    refine ⟨fun hx => absurd hx (by simp [Fence.wide]), CallsIn.inRound l (callsIn_wide.2 (h.mono fun e w'' he => ?_))⟩
    cases e with
    | returned v => exact hn _ _ he
    | panicked c => exact he
    | outgrown => exact he
  | .ok (.row row args) w', h =>
    exact ⟨fun hx => absurd hx (by simp [Fence.wide]), rowsIn_wide (h.mono fun v w'' hv => hn _ _ hv)⟩
  | .halt (.panic v) w', h => exact h

theorem op_in [hQ : NoOut Q] (hd : noDefer ops = true) {i : Nat} {next next' : Act → World → Prop} {a : Act} {w : World} (hn : ∀ a w, next a w → next' a w) (h : wpOp P ops Q i next a w) : wpOpIn (Rnd l) 0 P ops Q i next' a w := by
  unfold wpOp at h
  unfold wpOpIn
  cases hi : ops[i]? with
  | none => rw [hi] at h; exact hn _ _ h
  | some o =>
    rw [hi] at h
    simp only at h ⊢
    by_cases hw : Region.wanted o (yielded ops a.tmps) = true
    · rw [if_pos hw] at h ⊢
      rcases h with h | h
      · exact oper_in (noDefer_spec hd hi) hn h
      · exact absurd h.2 NoOut.no
    · rw [if_neg hw] at h ⊢
      exact ⟨fun _ _ => trivial, hn _ _ h⟩

theorem ops_in [hQ : NoOut Q] (hd : noDefer ops = true) : ∀ (is : List Nat) (a : Act) (w : World), wpOps P ops Q is a w → wpOpsIn (Rnd l) 0 P ops Q is a w
  | [], _, _, h => h
  | i :: is, a, w, h => by
    rw [wpOps_cons] at h
    rw [wpOpsIn_cons]
    exact op_in hd (fun a w h => ops_in hd is a w h) h

theorem any_in [hQ : NoOut Q] (hd : noDefer ops = true) : ∀ (fuel : Nat) (L : Array Bool) (a : Act) (w : World), wpAny P .any ops Q fuel L a w → wpAnyIn (Rnd l) 0 P .any ops Q fuel L a w
  | 0, _, _, _, h => h
  | fuel + 1, _, _, _, h => ⟨h.1, fun i hi => op_in hd (fun a w h => any_in hd fuel _ a w h) (h.2 i hi)⟩

def VCI (P : Program) (n : NN) (l : Nat) (c : Code) (K : Exit → Act → World → Prop) (X S0 : Nat → Prop) (w0 : World) (S : Nat → Prop) (wr : World) (st : St) : Prop :=
  ∀ a wa, Agree n a st.m → Inv X S0 w0 S wr st.l wa → c.wpIn (Rnd l) 0 P K a wa

theorem VCI_region [NoOut K] {id : Nat} (hd : noDefer ops = true) (c : Nat) (hc : ops.size = c) (h : RV P n ops K X S0 w0 c 0 S wr st) : VCI P n l (.region id ops false) K X S0 w0 S wr st := by
  subst hc
  intro a wa hA hI
  refine wpIn_region (ops_in hd _ _ _ ?_)
  have := h a wa hA hI
  rwa [← List.range_eq_range'] at this

theorem VCI_draw [NoOut K] {id : Nat} (hd : noDefer ops = true) (hm : P.follows .mixedOrders = true) (lw : List LB) (c : Nat) (hc : ops.size = c) (h : RVd P n ops K X S0 w0 lw S wr c (Array.replicate c false) S wr st) : VCI P n l (.region id ops true) K X S0 w0 S wr st := by
  subst hc
  intro a wa hA hI
  exact wpIn_region_any hm (any_in hd _ _ _ _ (wpAny_of_held _ _ _ _ (h (Ext.refl S wr) a _ hA hI.drew)))

theorem VCI_seq {x y : Code} (h : VCI P n l x (Exit.then (y.wpIn (Rnd l) 0 P K) K) X S0 w0 S wr st) : VCI P n l (.seq x y) K X S0 w0 S wr st :=
  fun a wa hA hI => wpIn_seq (h a wa hA hI)

theorem KEI_then {y : Code} (h : VCI P n l y K X S0 w0 S wr st) : KE n .normal (Exit.then (y.wpIn (Rnd l) 0 P K) K) X S0 w0 S wr st := h

theorem VCI_skip (h : KE n .normal K X S0 w0 S wr st) : VCI P n l .skip K X S0 w0 S wr st := fun a wa hA hI => wpIn_skip (h a wa hA hI)
theorem VCI_block {id : Nat} {c : Code} (h : VCI P n l c (Exit.inBlock id K) X S0 w0 S wr st) : VCI P n l (.block id c) K X S0 w0 S wr st :=
  fun a wa hA hI => wpIn_block (h a wa hA hI)
theorem VCI_exit {id : Nat} (h : KE n (.exit id) K X S0 w0 S wr st) : VCI P n l (.exit id) K X S0 w0 S wr st := fun a wa hA hI => wpIn_exit (h a wa hA hI)
theorem VCI_ret (h : KE n .ret K X S0 w0 S wr st) : VCI P n l .ret K X S0 w0 S wr st := fun a wa hA hI => wpIn_ret (h a wa hA hI)
theorem KE_ret_then {nx : Act → World → Prop} (h : KE n .ret K X S0 w0 S wr st) : KE n .ret (Exit.then nx K) X S0 w0 S wr st := h
theorem KE_ret_block {id : Nat} (h : KE n .ret K X S0 w0 S wr st) : KE n .ret (Exit.inBlock id K) X S0 w0 S wr st := h

theorem VCI_cond {c : Operand} {x y : Code} (t : Bool) (hc : ev st.m c = some (.bool t)) (ht : t = true → VCI P n l x K X S0 w0 S wr st) (hf : t = false → VCI P n l y K X S0 w0 S wr st) :
    VCI P n l (.cond c x y) K X S0 w0 S wr st := by
  intro a wa hA hI
  exact wpIn_cond_split (ev_eval hA hc) (fun h => ht h a wa hA hI) (fun h => hf h a wa hA hI)
theorem VCI_true {c : Operand} {x y : Code} (hc : ev st.m c = some (.bool true)) (h : VCI P n l x K X S0 w0 S wr st) : VCI P n l (.cond c x y) K X S0 w0 S wr st :=
  fun a wa hA hI => wpIn_cond_true (ev_eval hA hc) (h a wa hA hI)
theorem VCI_false {c : Operand} {x y : Code} (hc : ev st.m c = some (.bool false)) (h : VCI P n l y K X S0 w0 S wr st) : VCI P n l (.cond c x y) K X S0 w0 S wr st :=
  fun a wa hA hI => wpIn_cond_false (ev_eval hA hc) (h a wa hA hI)

theorem VCI_st {c : Code} (st' : St) (h : st = st') (k : VCI P n l c K X S0 w0 S wr st') : VCI P n l c K X S0 w0 S wr st := h ▸ k
theorem VCI_keep {c : Code} (ks is : List Nat) (k : Nat) (st' : St) (hm : (⟨only ks st.m, keepL st.l is k⟩ : St) = st') (hs : okKeep is k = true) (h : VCI P n l c K X S0 w0 S wr st') : VCI P n l c K X S0 w0 S wr st := by
  subst hm
  exact fun a wa hA hI => h a wa (hA.only ks) (hI.fewer (keepL_sublist hs))

end
end Eng
end Go.YtmfkmoecbnghhaaDoor
