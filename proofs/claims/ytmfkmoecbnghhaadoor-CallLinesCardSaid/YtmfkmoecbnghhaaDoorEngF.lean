/- Code: regions in either make, tests, blocks, the return, loops; a function from its entry on. -/
import Derived.Test.YtmfkmoecbnghhaaDoorEngE
namespace Go.YtmfkmoecbnghhaaDoor
namespace Eng

section
variable {P : Program} {T : Tab} {n : NN} {ops : Array Oper} {Q : Exit → Act → World → Prop} {X S0 : Nat → Prop} {w0 : World}

def KE (n : NN) (e : Exit) (K : Exit → Act → World → Prop) (X S0 : Nat → Prop) (w0 : World) (S : Nat → Prop) (wr : World) (st : St) : Prop :=
  ∀ a wa, Agree n a st.m → Inv X S0 w0 S wr st.l wa → K e a wa

def VC (P : Program) (n : NN) (c : Code) (K : Exit → Act → World → Prop) (X S0 : Nat → Prop) (w0 : World) (S : Nat → Prop) (wr : World) (st : St) : Prop :=
  ∀ a wa, Agree n a st.m → Inv X S0 w0 S wr st.l wa → c.wp P K a wa

variable {S : Nat → Prop} {wr : World} {st : St} {K : Exit → Act → World → Prop}

theorem RV_end {k : Nat} (h : KE n .normal Q X S0 w0 S wr st) : RV P n ops Q X S0 w0 0 k S wr st := fun a wa hA hI => h a wa hA hI

theorem VC_region {id : Nat} (c : Nat) (hc : ops.size = c) (h : RV P n ops K X S0 w0 c 0 S wr st) : VC P n (.region id ops false) K X S0 w0 S wr st := by
  subst hc
  intro a wa hA hI
  refine wp_region ?_
  have := h a wa hA hI
  rwa [← List.range_eq_range'] at this

theorem VC_seq {x y : Code} (h : VC P n x (Exit.then (y.wp P K) K) X S0 w0 S wr st) : VC P n (.seq x y) K X S0 w0 S wr st :=
  fun a wa hA hI => wp_seq (h a wa hA hI)

theorem KE_then {y : Code} (h : VC P n y K X S0 w0 S wr st) : KE n .normal (Exit.then (y.wp P K) K) X S0 w0 S wr st := h

theorem KE_block {id : Nat} (h : KE n .normal K X S0 w0 S wr st) : KE n .normal (Exit.inBlock id K) X S0 w0 S wr st := h

theorem VC_skip (h : KE n .normal K X S0 w0 S wr st) : VC P n .skip K X S0 w0 S wr st := fun a wa hA hI => wp_skip (h a wa hA hI)
theorem VC_label {l : Nat} (h : KE n .normal K X S0 w0 S wr st) : VC P n (.label l) K X S0 w0 S wr st := fun a wa hA hI => wp_label (h a wa hA hI)

theorem VC_block {id : Nat} {c : Code} (h : VC P n c (Exit.inBlock id K) X S0 w0 S wr st) : VC P n (.block id c) K X S0 w0 S wr st :=
  fun a wa hA hI => wp_block (h a wa hA hI)

theorem VC_exit {id : Nat} (h : KE n (.exit id) K X S0 w0 S wr st) : VC P n (.exit id) K X S0 w0 S wr st := fun a wa hA hI => wp_exit (h a wa hA hI)

theorem KE_exit_then {id : Nat} {nx : Act → World → Prop} (h : KE n (.exit id) K X S0 w0 S wr st) : KE n (.exit id) (Exit.then nx K) X S0 w0 S wr st := h
theorem KE_exit_here {id : Nat} (h : KE n .normal K X S0 w0 S wr st) : KE n (.exit id) (Exit.inBlock id K) X S0 w0 S wr st := fun a wa hA hI => by
  show (if id = id then K .normal a wa else K (.exit id) a wa)
  rw [if_pos rfl]; exact h a wa hA hI
theorem KE_exit_on {id id' : Nat} (hne : id ≠ id') (h : KE n (.exit id) K X S0 w0 S wr st) : KE n (.exit id) (Exit.inBlock id' K) X S0 w0 S wr st := fun a wa hA hI => by
  show (if id = id' then K .normal a wa else K (.exit id) a wa)
  rw [if_neg hne]; exact h a wa hA hI

theorem VC_cond {c : Operand} {x y : Code} (t : Bool) (hc : ev st.m c = some (.bool t)) (ht : t = true → VC P n x K X S0 w0 S wr st) (hf : t = false → VC P n y K X S0 w0 S wr st) :
    VC P n (.cond c x y) K X S0 w0 S wr st := by
  intro a wa hA hI
  exact wp_cond_split (ev_eval hA hc) (fun h => ht h a wa hA hI) (fun h => hf h a wa hA hI)

theorem VC_true {c : Operand} {x y : Code} (hc : ev st.m c = some (.bool true)) (h : VC P n x K X S0 w0 S wr st) : VC P n (.cond c x y) K X S0 w0 S wr st :=
  fun a wa hA hI => wp_cond_true (ev_eval hA hc) (h a wa hA hI)
theorem VC_false {c : Operand} {x y : Code} (hc : ev st.m c = some (.bool false)) (h : VC P n y K X S0 w0 S wr st) : VC P n (.cond c x y) K X S0 w0 S wr st :=
  fun a wa hA hI => wp_cond_false (ev_eval hA hc) (h a wa hA hI)

/-- A test whose answer the context gives. -/
theorem VC_yes {c : Operand} {x y : Code} (t : Bool) (hc : ev st.m c = some (.bool t)) (ht : t = true) (h : VC P n x K X S0 w0 S wr st) : VC P n (.cond c x y) K X S0 w0 S wr st :=
  VC_true (ht ▸ hc) h
theorem VC_no {c : Operand} {x y : Code} (t : Bool) (hc : ev st.m c = some (.bool t)) (ht : t = false) (h : VC P n y K X S0 w0 S wr st) : VC P n (.cond c x y) K X S0 w0 S wr st :=
  VC_false (ht ▸ hc) h

/-- Which of a row are taken. -/
def pickL (l : List LB) : List Nat → List LB
  | [] => []
  | i :: r => match l[i]? with
    | some lb => lb :: pickL l r
    | none => pickL l r

theorem mem_pickL {l : List LB} {lb : LB} : ∀ {is : List Nat}, lb ∈ pickL l is → lb ∈ l
  | [], h => by cases h
  | i :: r, h => by
    simp only [pickL] at h
    cases hi : l[i]? with
    | none => rw [hi] at h; exact mem_pickL h
    | some lc =>
      rw [hi] at h
      rcases List.mem_cons.1 h with rfl | h
      · exact List.mem_of_getElem? hi
      · exact mem_pickL h

theorem pickL_sublist : ∀ {is : List Nat} {l : List LB}, is.Pairwise (· < ·) → (pickL l is).Sublist l := by
  intro is l hs
  have key : ∀ (is : List Nat) (k : Nat), is.Pairwise (· < ·) → (∀ i ∈ is, k ≤ i) → (pickL l is).Sublist (l.drop k) := by
    intro is
    induction is with
    | nil => intro k _ _; exact List.nil_sublist _
    | cons i r ih =>
      intro k hp hk
      have hp' := List.pairwise_cons.1 hp
      have hr := ih (i + 1) hp'.2 (fun j hj => hp'.1 j hj)
      have hki := hk i (by simp)
      simp only [pickL]
      cases hi : l[i]? with
      | none =>
        refine hr.trans ?_
        rw [show i + 1 = k + (i + 1 - k) from by omega, ← List.drop_drop]
        exact List.drop_sublist _ _
      | some lb =>
        have hlt := (List.getElem?_eq_some_iff.1 hi).1
        have hge := (List.getElem?_eq_some_iff.1 hi).2
        have h1 : (lb :: pickL l r).Sublist (l.drop i) := by
          rw [List.drop_eq_getElem_cons hlt, hge]
          exact hr.cons_cons _
        refine h1.trans ?_
        rw [show i = k + (i - k) from by omega, ← List.drop_drop]
        exact List.drop_sublist _ _
  have := key is 0 hs (fun _ _ => Nat.zero_le _)
  simpa using this

/-- Which own blocks are kept: some of the first k, and all behind. -/
def keepL (l : List LB) (is : List Nat) (k : Nat) : List LB := pickL l is ++ l.drop k

def okKeep (is : List Nat) (k : Nat) : Bool := (is.all fun i => Nat.blt i k) && match is with
  | [] => true
  | i :: r => go i r
where go : Nat → List Nat → Bool
  | _, [] => true
  | i, j :: r => Nat.blt i j && go j r

theorem okKeep_go : ∀ (i : Nat) (r : List Nat), okKeep.go i r = true → (i :: r).Pairwise (· < ·)
  | i, [], _ => by simp
  | i, j :: r, h => by
    simp only [okKeep.go, Bool.and_eq_true] at h
    have h1 := Nat.le_of_ble_eq_true h.1
    have h2 := okKeep_go j r h.2
    refine List.pairwise_cons.2 ⟨fun x hx => ?_, h2⟩
    rcases List.mem_cons.1 hx with rfl | hx
    · exact h1
    · exact Nat.lt_trans h1 ((List.pairwise_cons.1 h2).1 x hx)

theorem okKeep_spec {is : List Nat} {k : Nat} (h : okKeep is k = true) : is.Pairwise (· < ·) ∧ ∀ i ∈ is, i < k := by
  simp only [okKeep, Bool.and_eq_true] at h
  refine ⟨?_, fun i hi => Nat.le_of_ble_eq_true (List.all_eq_true.1 h.1 i hi)⟩
  cases is with
  | nil => simp
  | cons i r => exact okKeep_go i r h.2

theorem pickL_take {l : List LB} {k : Nat} : ∀ {is : List Nat}, (∀ i ∈ is, i < k) → pickL l is = pickL (l.take k) is
  | [], _ => rfl
  | i :: r, h => by
    have hi := h i (by simp)
    simp only [pickL]
    rw [List.getElem?_take, if_pos hi, pickL_take fun j hj => h j (by simp [hj])]

theorem keepL_sublist {l : List LB} {is : List Nat} {k : Nat} (h : okKeep is k = true) : (keepL l is k).Sublist l := by
  obtain ⟨h1, h2⟩ := okKeep_spec h
  unfold keepL
  rw [pickL_take h2]
  conv => rhs; rw [← List.take_append_drop k l]
  exact (pickL_sublist h1).append (List.Sublist.refl _)

/-- As keepL; or without what lies behind. -/
def keepT (l : List LB) (is : List Nat) (k : Nat) (tl : Bool) : List LB := pickL l is ++ bif tl then l.drop k else []

theorem keepT_sublist {l : List LB} {is : List Nat} {k : Nat} {tl : Bool} (h : okKeep is k = true) : (keepT l is k tl).Sublist l := by
  have h1 := keepL_sublist (l := l) h
  cases tl with
  | true => exact h1
  | false =>
    refine List.Sublist.trans ?_ h1
    unfold keepT keepL
    exact (List.Sublist.refl _).append (List.nil_sublist _)

/-- Some slots, some own blocks are forgotten. -/
theorem VC_less {c : Code} (ks is : List Nat) (st' : St) (hm : (⟨only ks st.m, pickL st.l is⟩ : St) = st') (hs : is.Pairwise (· < ·)) (h : VC P n c K X S0 w0 S wr st') : VC P n c K X S0 w0 S wr st := by
  subst hm
  exact fun a wa hA hI => h a wa (hA.only ks) (hI.fewer (pickL_sublist hs))

theorem KE_less {e : Exit} (ks is : List Nat) (st' : St) (hm : (⟨only ks st.m, pickL st.l is⟩ : St) = st') (hs : is.Pairwise (· < ·)) (h : KE n e K X S0 w0 S wr st') : KE n e K X S0 w0 S wr st := by
  subst hm
  exact fun a wa hA hI => h a wa (hA.only ks) (hI.fewer (pickL_sublist hs))

/-- The own blocks in another order. -/
theorem Inv.perm {l l' : List LB} {wa : World} (hI : Inv X S0 w0 S wr l wa) (hp : l.Perm l') : Inv X S0 w0 S wr l' wa :=
  ⟨fun lb h => hI.own lb (hp.symm.subset h), (hp.pairwise_iff (fun h => fun e => h e.symm)).1 hI.nd, fun lb h => hI.sep lb (hp.symm.subset h), hI.ref, hI.lt, hI.ext, hI.old, hI.base, fun lb h => hI.mine lb (hp.symm.subset h)⟩

/-- A whole region in the text's order, by what is known alone. -/
theorem VC_go (hT : TabOK P T) {id : Nat} {hs : List Nat} {y : Code} (ks : List Nat) (st' : St) (xs : List Nat)
    (he : (runOps T n ops [] hs 0 st).map (fun r => ({ r with st := ⟨only ks r.st.m, r.st.l⟩ } : Res)) = some ⟨st', xs, xs, []⟩)
    (hc : Nat.beq ops.size hs.length = true) (h : VC P n y K X S0 w0 S wr st') : VC P n (.seq (.region id ops false) y) K X S0 w0 S wr st :=
  VC_seq (VC_region ops.size rfl (RV_go (c' := 0) (k' := 0 + hs.length) hT ks st' xs he (by rw [Nat.eq_of_beq_eq_true hc]; simp) (RV_end h)))

/-! ### The end -/

/-- Where a return goes in the end. -/
class Bottom (K : Exit → Act → World → Prop) (B : outParam (Exit → Act → World → Prop)) : Prop where
  ret : ∀ a w, B .ret a w → K .ret a w
  panic : ∀ c a w, K (.panic c) a w = B (.panic c) a w

instance {P : Program} {fn : Func} {R : Ending → World → Prop} : Bottom (bodyPost P fn R) (bodyPost P fn R) := ⟨fun _ _ h => h, fun _ _ _ => rfl⟩
instance {nx : Act → World → Prop} {K B : Exit → Act → World → Prop} [h : Bottom K B] : Bottom (Exit.then nx K) B := ⟨fun a w => h.ret a w, fun c a w => h.panic c a w⟩
instance {id : Nat} {K B : Exit → Act → World → Prop} [h : Bottom K B] : Bottom (Exit.inBlock id K) B := ⟨fun a w => h.ret a w, fun c a w => h.panic c a w⟩

theorem put_defers' (a : Act) (d : Option Nat) (v : Value) : (a.put d v).defers = a.defers := by cases d <;> rfl

theorem panic_put {P : Program} {fn : Func} {R : Ending → World → Prop} {K : Exit → Act → World → Prop} [h : Bottom K (bodyPost P fn R)] (d : Option Nat) (v : Value) :
    ∀ c a w, K (.panic c) (a.put d v) w → K (.panic c) a w := by
  intro c a w hk
  rw [h.panic] at hk ⊢
  simpa [bodyPost, put_defers'] using hk

def evRes (T : Tab) (st : St) : List ResultVar → List Nat → Option (List Value × List Nat × List Nat)
  | [], _ => some ([], [], [])
  | .tmp t :: r, hs => match look st.m t, evRes T st r hs with
    | some v, some (vs, xs, ys) => some (v :: vs, xs, ys)
    | _, _ => none
  | .cell c t :: r, h :: hs => match look st.m c with
    | some (.pointer (some ⟨b, o, none⟩)) => match ldL T st.l [] h t b o, evRes T st r hs with
      | some (v, xs, ys), some (vs, xs', ys') => some (v :: vs, xs ++ xs', ys ++ ys')
      | _, _ => none
    | _ => none
  | .cell _ _ :: _, [] => none

def tupled : List Value → Value
  | [v] => v
  | vs => .tuple vs.toArray

def resV (a : Act) : ResultVar → Sem Value
  | .tmp t => pure (a.tmps.getD t undef)
  | .cell c t => do loadVar t (← asAddr (a.tmps.getD c undef))

theorem results_eq (fn : Func) (a : Act) : results fn a.tmps = (fn.results.mapM (resV a) >>= fun vs => pure (if h : vs.size = 1 then vs[0] else .tuple vs)) := by
  unfold results
  congr 1

theorem run_resultsL (hT : TabOK P T) {a : Act} {wa : World} (hA : Agree n a st.m) (hI : OwnL st.l wa) : ∀ (rs : List ResultVar) (hs : List Nat) (vs : List Value) (xs ys : List Nat),
    evRes T st rs hs = some (vs, xs, ys) → xs = ys →
    (rs.mapM (resV a)).run P wa = .ok vs wa := by
  intro rs
  induction rs with
  | nil =>
    intro hs vs xs ys h _
    simp only [evRes, Option.some.injEq, Prod.mk.injEq] at h
    obtain ⟨rfl, _⟩ := h
    simp
  | cons r rs ih =>
    intro hs vs xs ys h hxy
    cases r with
    | tmp t =>
      simp only [evRes] at h
      split at h
      · rename_i v us x1 y1 hv hr
        simp only [Option.some.injEq, Prod.mk.injEq] at h
        obtain ⟨rfl, rfl, rfl⟩ := h
        have hvt := hA.at' t v hv
        have h0 : (resV a (.tmp t)).run P wa = .ok v wa := by simp [resV, hvt]
        rw [List.mapM_cons]
        simp only [Sem.run_bind, h0, Sem.run_pure, Result.andThen_ok]
        rw [ih hs us _ _ hr hxy]
        rfl
      · cases h
    | cell c t =>
      cases hs with
      | nil => simp [evRes] at h
      | cons hh hs =>
        simp only [evRes] at h
        split at h
        · rename_i b o hc
          split at h
          · rename_i v x1 y1 us x2 y2 hl hr
            simp only [Option.some.injEq, Prod.mk.injEq] at h
            obtain ⟨rfl, rfl, rfl⟩ := h
            have hlen : x1.length = y1.length := ldL_len hl
            obtain ⟨rfl, rfl⟩ := List.append_inj hxy hlen
            have hvt := hA.at' c _ hc
            have h1 := run_ldL (w := wa) (ro := []) hT hI (fun _ h => (List.not_mem_nil h).elim) hl
            have h2 : (loadVar t ⟨b, o, none⟩).run P wa = .ok v wa := by
              unfold Instr.loadAt at h1
              simpa [Instr.sureAddr] using h1
            have h3 : a.tmps.getD c undef = .pointer (some ⟨b, o, none⟩) := by simp [hvt]
            have h0 : (resV a (.cell c t)).run P wa = .ok v wa := by
              show (asAddr (a.tmps.getD c undef) >>= fun x => loadVar t x).run P wa = _
              rw [h3]
              simp only [asAddr, Sem.run_bind, Sem.run_pure, Result.andThen_ok, h2]
            rw [List.mapM_cons]
            simp only [Sem.run_bind, h0, Sem.run_pure, Result.andThen_ok]
            rw [ih hs us _ _ hr rfl]
            rfl
          · cases h
        · cases h

theorem run_results (hT : TabOK P T) {a : Act} {wa : World} {fn : Func} (hA : Agree n a st.m) (hI : OwnL st.l wa) {hs : List Nat} {vs : List Value} {xs : List Nat}
    (h : evRes T st fn.results.toList hs = some (vs, xs, xs)) : (results fn a.tmps).run P wa = .ok (tupled vs) wa := by
  have h1 := run_resultsL hT hA hI fn.results.toList hs vs xs xs h rfl
  rw [results_eq, Array.mapM_eq_mapM_toList]
  simp only [Sem.run_bind, Sem.run_map, h1, Result.andThen_ok]
  match vs with
  | [] => rfl
  | [v] => rfl
  | _ :: _ :: _ => simp [tupled]

theorem KE_ret {fn : Func} {ls : List LB} {R : Value → List LB → (Nat → Prop) → World → Prop} (hT : TabOK P T) (is : List Nat) (k : Nat) (tl : Bool) (hs : List Nat) (vs : List Value) (xs : List Nat) (ls' : List LB)
    (hX : X = idsOf ls) (he : (evRes T st fn.results.toList hs).map (fun r => (r, keepT st.l is k tl)) = some ((vs, xs, xs), ls')) (hsi : okKeep is k = true)
    (h : ∀ wa, Ext S wr S wa → R (tupled vs) ls' S wa) {a : Act} {wa : World} (hA : Agree n a st.m) (hI : Inv X S0 w0 S wr st.l wa) :
    a.defers = n.D ∧ ∃ v, (results fn a.tmps).run P wa = .ok v wa ∧ Ret S0 w0 ls R (.returned v) wa := by
  subst hX
  cases hr : evRes T st fn.results.toList hs with
  | none => rw [hr] at he; cases he
  | some p =>
    rw [hr] at he
    simp only [Option.map_some, Option.some.injEq, Prod.mk.injEq] at he
    obtain ⟨rfl, rfl⟩ := he
    have hI2 := hI.fewer (keepT_sublist hsi (l := st.l) (tl := tl))
    exact ⟨hA.defers, _, run_results hT hA hI.own hr, _, S, _, rfl, hI.base, hI.ext, hI.old, hI.lt, ⟨hI2.nd, fun lb hl => (hI2.mine lb hl).symm, hI2.sep⟩, hI2.own, h wa hI.toExt⟩

theorem VC_ret {nn : Nat} {fn : Func} {ls : List LB} {R : Value → List LB → (Nat → Prop) → World → Prop} [hB : Bottom K (bodyPost P fn (Ret S0 w0 ls R))] (hT : TabOK P T) (is : List Nat) (k : Nat) (tl : Bool) (hs : List Nat) (vs : List Value) (xs : List Nat) (ls' : List LB)
    (hX : X = idsOf ls) (he : (evRes T st fn.results.toList hs).map (fun r => (r, keepT st.l is k tl)) = some ((vs, xs, xs), ls')) (hsi : okKeep is k = true)
    (h : ∀ wa, Ext S wr S wa → R (tupled vs) ls' S wa) : VC P ⟨nn, []⟩ .ret K X S0 w0 S wr st :=
  fun a wa hA hI => wp_ret (hB.ret a wa (KE_ret hT is k tl hs vs xs ls' hX he hsi h hA hI))

theorem KE_end {nn : Nat} {fn : Func} {ls : List LB} {R : Value → List LB → (Nat → Prop) → World → Prop} (hT : TabOK P T) (is : List Nat) (k : Nat) (tl : Bool) (hs : List Nat) (vs : List Value) (xs : List Nat) (ls' : List LB)
    (hX : X = idsOf ls) (he : (evRes T st fn.results.toList hs).map (fun r => (r, keepT st.l is k tl)) = some ((vs, xs, xs), ls')) (hsi : okKeep is k = true)
    (h : ∀ wa, Ext S wr S wa → R (tupled vs) ls' S wa) : KE ⟨nn, []⟩ .normal (bodyPost P fn (Ret S0 w0 ls R)) X S0 w0 S wr st :=
  fun _ _ hA hI => KE_ret hT is k tl hs vs xs ls' hX he hsi h hA hI

/-! ### An own block is written no more -/

theorem VC_freeze {c : Code} (i : Nat) (lb : LB) (l' : List LB) (hl : st.l[i]? = some lb) (hl' : st.l.eraseIdx i = l') (hm : ¬ X lb.id)
    (h : ∀ w1, Ext S wr S w1 → w1.heap[lb.id]? = some (.cells lb.cells.toArray lb.ty (0, 0)) → VC P n c K X S0 w0 (fun b => S b ∨ b = lb.id) w1 ⟨st.m, l'⟩) : VC P n c K X S0 w0 S wr st := by
  intro a wa hA hI
  subst hl'
  have hi := (List.getElem?_eq_some_iff.1 hl).1
  have hg := (List.getElem?_eq_some_iff.1 hl).2
  have e1 : st.l = st.l.take i ++ lb :: st.l.drop (i + 1) := by
    rw [← hg, List.getElem_cons_drop, List.take_append_drop]
  have e2 : st.l.eraseIdx i = st.l.take i ++ st.l.drop (i + 1) := List.eraseIdx_eq_take_drop_succ ..
  have hI2 := hI
  rw [e1] at hI2
  have hf := hI2.freeze hm
  rw [← e2] at hf
  exact h wa hI.toExt (hI.own lb (List.mem_of_getElem? hl)) a wa hA hf

/-! ### Loops -/

def LoopK (n : NN) (X S0 : Nat → Prop) (w0 : World) (J : Nat → (Nat → Prop) → World → St → Prop) (m : Nat) (a : Act) (w : World) : Prop :=
  ∃ m', m' < m ∧ ∃ S wr st, J m' S wr st ∧ Agree n a st.m ∧ Inv X S0 w0 S wr st.l w

theorem VC_loop {c : Code} (J : Nat → (Nat → Prop) → World → St → Prop) (m0 : Nat) (h0 : J m0 S wr st)
    (hr : ∀ m S wr st, J m S wr st → VC P n c (Exit.then (LoopK n X S0 w0 J m) K) X S0 w0 S wr st) : VC P n (.loop c) K X S0 w0 S wr st := by
  intro a wa hA hI
  let I : Act → World → Prop := fun a w => ∃ m, ∃ S wr st, J m S wr st ∧ Agree n a st.m ∧ Inv X S0 w0 S wr st.l w
  have least : ∀ a w, I a w → ∃ m, (∃ S wr st, J m S wr st ∧ Agree n a st.m ∧ Inv X S0 w0 S wr st.l w) ∧ ∀ k, (∃ S wr st, J k S wr st ∧ Agree n a st.m ∧ Inv X S0 w0 S wr st.l w) → m ≤ k := by
    intro a w ⟨m, hm⟩
    induction m using Nat.strongRecOn with
    | _ m ih =>
      by_cases hk : ∃ k, k < m ∧ ∃ S wr st, J k S wr st ∧ Agree n a st.m ∧ Inv X S0 w0 S wr st.l w
      · obtain ⟨k, hlt, hk⟩ := hk
        exact ih k hlt hk
      · exact ⟨m, hm, fun k h => by
          rcases Nat.lt_or_ge k m with h1 | h1
          · exact absurd ⟨k, h1, h⟩ hk
          · exact h1⟩
  have : ∃ μ : Act → World → Nat, ∀ a w, I a w → (∃ S wr st, J (μ a w) S wr st ∧ Agree n a st.m ∧ Inv X S0 w0 S wr st.l w) ∧ ∀ k, (∃ S wr st, J k S wr st ∧ Agree n a st.m ∧ Inv X S0 w0 S wr st.l w) → μ a w ≤ k := by
    classical
    refine ⟨fun a w => if h : I a w then Classical.choose (least a w h) else 0, fun a w h => ?_⟩
    simp only [h, dif_pos]
    exact Classical.choose_spec (least a w h)
  obtain ⟨μ, hμ⟩ := this
  refine wp_loop I μ ⟨m0, S, wr, st, h0, hA, hI⟩ fun a w hIw => ?_
  obtain ⟨⟨S1, wr1, st1, hJ, hA1, hI1⟩, _⟩ := hμ a w hIw
  refine wp_mono (hr _ S1 wr1 st1 hJ a w hA1 hI1) fun e a' w' he => ?_
  cases e <;> try exact he
  obtain ⟨m', hlt, S2, wr2, st2, hJ2, hA2, hI2⟩ := he
  have hI' : I a' w' := ⟨m', S2, wr2, st2, hJ2, hA2, hI2⟩
  exact ⟨hI', Nat.lt_of_le_of_lt ((hμ a' w' hI').2 m' ⟨S2, wr2, st2, hJ2, hA2, hI2⟩) hlt⟩

theorem KE_round {J : Nat → (Nat → Prop) → World → St → Prop} {m : Nat} (m' : Nat) (st' : St) (ks is : List Nat) (hm : (⟨only ks st.m, pickL st.l is⟩ : St) = st') (hlt : m' < m) (hs : is.Pairwise (· < ·)) (hJ : J m' S wr st') :
    KE n .normal (Exit.then (LoopK n X S0 w0 J m) K) X S0 w0 S wr st := by
  subst hm
  intro a wa hA hI
  refine ⟨m', hlt, S, wr, _, hJ, hA.only ks, hI.fewer ?_⟩
  exact pickL_sublist hs

/-! ### A function -/

theorem Calls_of_VC {f : FuncId} {fn : Func} {c : Code} {args : List Value} {R : Value → List LB → (Nat → Prop) → World → Prop} {ls : List LB} (st : St)
    (hf : P.funcs[f]? = some fn) (hb : fn.body = some c) (hst : ((List.range args.length).zip args, ls) = (st.m, st.l)) (hn : Nat.ble args.length fn.ntmps = true) (hP : Pre S0 w0 ls)
    (h : VC P ⟨fn.ntmps, []⟩ c (bodyPost P fn (Ret S0 w0 ls R)) (idsOf ls) S0 w0 S0 w0 st) : Calls P f args.toArray w0 (Ret S0 w0 ls R) := by
  have hn' := Nat.le_of_ble_eq_true hn
  simp only [Prod.mk.injEq] at hst
  refine calls_of_wp hf hb (h _ w0 ⟨by simp; omega, rfl, fun t v e => ?_⟩ ⟨?_, ?_, ?_, fun _ _ => rfl, hP.lt, Ext.refl _ _, fun _ h => .inl h, Keep.refl _ _, fun lb hl => .inr ⟨lb, hst.2 ▸ hl, rfl⟩⟩)
  · rw [← hst.1] at e
    have key : ∀ (l : List Value) (k : Nat), look ((List.range' k l.length).zip l) t = some v → k ≤ t ∧ l[t - k]? = some v := by
      intro l
      induction l with
      | nil => intro k e; simp [look] at e
      | cons x r ih =>
        intro k e
        simp only [List.length_cons, List.range'_succ, List.zip_cons_cons, look_put] at e
        by_cases hk : k = t
        · subst hk
          rw [if_pos rfl] at e
          simp only [Option.some.injEq] at e
          subst e
          simp
        · rw [if_neg hk] at e
          obtain ⟨h1, h2⟩ := ih (k + 1) e
          refine ⟨by omega, ?_⟩
          rw [show t - k = (t - (k + 1)) + 1 from by omega, List.getElem?_cons_succ]
          exact h2
    rw [List.range_eq_range'] at e
    have := (key args 0 e).2
    rw [Nat.sub_zero] at this
    have hlt := (List.getElem?_eq_some_iff.1 this).1
    rw [Array.getElem?_append_left (by simpa using hlt)]
    simpa using this
  · rw [← hst.2]; exact hP.own
  · rw [← hst.2]; exact hP.nd
  · rw [← hst.2]; exact hP.sep

end
end Eng
end Go.YtmfkmoecbnghhaaDoor
