/- Regions: the operations of a region, one by one, on what is known; in the order of the text, or in whatever order. -/
import Derived.Test.YtmfkmoecbnghhaaDoorEngC
namespace Go.YtmfkmoecbnghhaaDoor
namespace Eng

/-- Is the operation carried out? none: not known. -/
def wantedV (ops : Array Oper) (m : Mp) (o : Oper) : Option Bool :=
  match o.guard with
  | none => some true
  | some (j, want) => match ops[j]? with
    | some oj => match oj.dst with
      | some d => match look m d with
        | some (.bool true) => some want
        | some (.bool false) => some (!want)
        | some (.tuple _) => some false
        | _ => none
      | none => none
    | none => none

theorem wantedV_spec {n : NN} {ops : Array Oper} {m : Mp} {o : Oper} {a : Act} {r : Bool} (hA : Agree n a m) (h : wantedV ops m o = some r) : Region.wanted o (yielded ops a.tmps) = r := by
  unfold wantedV at h
  unfold Region.wanted
  cases hg : o.guard with
  | none => rw [hg] at h; simpa using h
  | some p =>
    obtain ⟨j, want⟩ := p
    rw [hg] at h
    simp only at h
    show (yielded ops a.tmps j == some want) = r
    cases hj : ops[j]? with
    | none => rw [hj] at h; cases h
    | some oj =>
      rw [hj] at h
      simp only at h
      cases hd : oj.dst with
      | none => rw [hd] at h; cases h
      | some d =>
        rw [hd] at h
        simp only at h
        cases hl : look m d with
        | none => rw [hl] at h; cases h
        | some v =>
          rw [hl] at h
          have hv := hA.at' d v hl
          unfold yielded
          rw [hj]
          simp only [Option.bind_some, hd, hv]
          match v, h with
          | .bool true, h => simp only [Option.some.injEq] at h; subst h; cases want <;> rfl
          | .bool false, h => simp only [Option.some.injEq] at h; subst h; cases want <;> rfl
          | .tuple _, h => simp only [Option.some.injEq] at h; subst h; rfl

def okDst (n : Nat) : Option Nat → Bool
  | none => true
  | some d => Nat.blt d n

theorem okDst_spec {n : Nat} {d : Option Nat} (h : okDst n d = true) : ∀ t, d = some t → t < n := by
  rintro t rfl
  exact Nat.le_of_ble_eq_true h

/-- What is known behind an operation; blocks that must be one; what must hold. -/
structure Res where
  st : St
  xs : List Nat
  ys : List Nat
  cs : List Cond

def storeV (T : Tab) (st : St) (o : Op) (h : Nat) : Option Res :=
  match o with
  | .store t x y => match ev st.m x, ev st.m y, T.get t, st.l[h]? with
    | some (.pointer (some ⟨b, o, none⟩)), some v, some ti, some lb =>
      bif Nat.beq (cellsL v).length ti.size && Nat.ble (o + (cellsL v).length) lb.cells.length && (cellsL v).all isCell then
        some ⟨⟨st.m, st.l.set h { lb with cells := setRange lb.cells o (cellsL v) }⟩, [b], [lb.id], []⟩
      else none
    | _, _, _, _ => none
  | _ => none

def isStore : Op → Bool
  | .store .. => true
  | _ => false

def stepOp (T : Tab) (n : Nat) (ops : Array Oper) (ro : List RB) (i h : Nat) (st : St) : Option Res :=
  match ops[i]? with
  | none => none
  | some o => bif okDst n o.dst then
    match wantedV ops st.m o with
    | none => none
    | some false => some ⟨⟨put st.m o.dst undef, st.l⟩, [], [], []⟩
    | some true => bif isStore o.op then (match o.dst with | none => storeV T st o.op h | some _ => none) else
      match evStill T st.m st.l ro o.op h with
      | some ⟨v, xs, ys, cs⟩ => some ⟨⟨put st.m o.dst v, st.l⟩, xs, ys, cs⟩
      | none => none
    else none

/-- The operations from i on, one for each hint. -/
def runOps (T : Tab) (n : Nat) (ops : Array Oper) (ro : List RB) : List Nat → Nat → St → Option Res
  | [], _, st => some ⟨st, [], [], []⟩
  | h :: r, i, st => match stepOp T n ops ro i h st with
    | some ⟨st', xs, ys, cs⟩ => match runOps T n ops ro r (i + 1) st' with
      | some ⟨st'', xs', ys', cs'⟩ => some ⟨st'', xs ++ xs', ys ++ ys', cs ++ cs'⟩
      | none => none
    | none => none

section
variable {P : Program} {T : Tab} {n : NN} {ops : Array Oper} {Q : Exit → Act → World → Prop} {X S0 : Nat → Prop} {w0 : World}

theorem pure1_len {v : Option Value} {r : Out} (h : pure1 v = some r) : r.xs.length = r.ys.length := by
  obtain ⟨_, h1, h2, _⟩ := pure1_some h
  rw [h1, h2]

theorem pureC_len {v : Option (Value × List Cond)} {r : Out} (h : pureC v = some r) : r.xs.length = r.ys.length := by
  obtain ⟨_, h1, h2⟩ := pureC_some h
  rw [h1, h2]

theorem ldL_len {l : List LB} {ro : List RB} {h t b o : Nat} {v : Value} {xs ys : List Nat} (e : ldL T l ro h t b o = some (v, xs, ys)) : xs.length = ys.length := by
  unfold ldL at e
  split at e
  · cases hh : Nat.ble 1000 h <;> rw [hh] at e
    · simp only [cond_false] at e
      (repeat' split at e) <;> (cases e <;> rfl)
    · simp only [cond_true] at e
      (repeat' split at e) <;> (cases e <;> rfl)
  · cases e

theorem sliceTo_len {D : TypeDesc} {x : Value} {h : Option Value} {r : Out} (e : sliceTo T D x h = some r) : r.xs.length = r.ys.length := by
  unfold sliceTo at e
  (repeat' split at e) <;> (cases e <;> rfl)

theorem sliceStr_len {D : TypeDesc} {x l : Value} {h : Option Value} {r : Out} (e : sliceStr D x l h = some r) : r.xs.length = r.ys.length := by
  unfold sliceStr at e
  (repeat' split at e) <;> (cases e <;> rfl)

theorem evStill_len {m : Mp} {l : List LB} {ro : List RB} {o : Op} {h : Nat} {r : Out} (e : evStill T m l ro o h = some r) : r.xs.length = r.ys.length := by
  cases o <;> simp only [evStill] at e <;> try (cases e <;> rfl)
  case slice t x lo hi mx =>
    cases lo <;> cases hi <;> cases mx <;> simp only [] at e <;> try (cases e <;> rfl)
    all_goals (split at e) <;> first | exact sliceTo_len e | exact sliceStr_len e | (cases e <;> rfl)
  case call c =>
    unfold lenCall at e
    (repeat' split at e) <;> first | exact pure1_len e | (cases e <;> rfl)
  case load =>
    split at e
    · split at e
      · rename_i hl
        simp only [Option.some.injEq] at e
        subst e
        exact ldL_len hl
      · cases e
    · cases e
  case binOp =>
    split at e
    · exact pureC_len e
    · cases e
  case fieldAddr t x i =>
    split at e
    · rename_i f ti _ _ _ _
      cases hz : Nat.beq ti.size 0 <;> rw [hz] at e <;> (cases e <;> rfl)
    · cases e
  all_goals first
    | exact pure1_len e
    | ((repeat' split at e) <;> first | exact pure1_len e | (cases e <;> rfl))

theorem stepOp_len {ro : List RB} {i h : Nat} {st : St} {r : Res} (e : stepOp T n ops ro i h st = some r) : r.xs.length = r.ys.length := by
  unfold stepOp at e
  cases hi : ops[i]? with
  | none => rw [hi] at e; cases e
  | some o =>
    rw [hi] at e
    simp only at e
    cases hd : okDst n o.dst <;> rw [hd] at e
    · cases e
    · simp only [cond_true] at e
      split at e
      · cases e
      · cases e <;> rfl
      · cases hs : isStore o.op <;> rw [hs] at e
        · simp only [cond_false] at e
          split at e
          · rename_i hev
            have := evStill_len hev
            simp only [Option.some.injEq] at e
            subst e
            exact this
          · cases e
        · simp only [cond_true] at e
          split at e
          · obtain ⟨dst, op, type, pos, after, guard⟩ := o
            cases op <;> simp [isStore] at hs
            simp only [storeV] at e
            split at e
            · rename_i b o' v ti lb _ _ _ _
              cases hc : (Nat.beq (cellsL v).length ti.size && Nat.ble (o' + (cellsL v).length) lb.cells.length && (cellsL v).all isCell) <;> rw [hc] at e <;> (cases e <;> rfl)
            · cases e
          · cases e

theorem stepOp_sound (hT : TabOK P T) {ro : List RB} {i h : Nat} {st st' : St} {xs : List Nat} {cs : List Cond} {S : Nat → Prop} {wr : World}
    (he : stepOp T n ops ro i h st = some ⟨st', xs, xs, cs⟩) (hcs : Conds cs) {a : Act} {wa : World} (hA : Agree n a st.m) (hI : Inv X S0 w0 S wr st.l wa) (hR : ROK ro wa)
    {rest : Act → World → Prop} (hk : ∀ a' wa', Agree n a' st'.m → Inv X S0 w0 S wr st'.l wa' → rest a' wa') :
    wpOp P ops Q i rest a wa := by
  unfold stepOp at he
  cases hi : ops[i]? with
  | none => rw [hi] at he; cases he
  | some o =>
    rw [hi] at he
    simp only at he
    by_cases hd : okDst n o.dst = true
    · rw [hd] at he
      simp only [cond_true] at he
      have hd' := okDst_spec hd
      unfold wpOp
      rw [hi]
      simp only
      cases hw : wantedV ops st.m o with
      | none => rw [hw] at he; cases he
      | some r =>
        rw [hw] at he
        rw [wantedV_spec hA hw]
        cases r with
        | false =>
          simp only [Option.some.injEq, Res.mk.injEq] at he
          obtain ⟨rfl, _⟩ := he
          simp only [Bool.false_eq_true, if_false]
          exact hk _ _ (hA.put hd') hI
        | true =>
          simp only at he
          simp only [if_true]
          refine .inl ?_
          by_cases hs : isStore o.op = true
          · rw [hs] at he
            simp only [cond_true] at he
            cases hdst : o.dst with
            | some d => rw [hdst] at he; cases he
            | none =>
              rw [hdst] at he
              simp only at he
              obtain ⟨dst, op, type, pos, after, guard⟩ := o
              simp only at hdst he hs
              subst hdst
              cases op <;> simp [isStore] at hs
              rename_i t x y
              simp only [storeV] at he
              split at he
              · rename_i b o' v ti lb hx hy ht hlb
                by_cases hc : (Nat.beq (cellsL v).length ti.size && Nat.ble (o' + (cellsL v).length) lb.cells.length && (cellsL v).all isCell) = true
                · rw [hc] at he
                  simp only [cond_true, Option.some.injEq, Res.mk.injEq] at he
                  obtain ⟨rfl, h1, h2, _⟩ := he
                  have hb : b = lb.id := by rw [← h1] at h2; simpa using h2.symm
                  subst hb
                  simp only [Bool.and_eq_true] at hc
                  obtain ⟨wb, hr, hwr⟩ := run_storeAt hT ht (hI.own lb (List.mem_of_getElem? hlb)) (Nat.eq_of_beq_eq_true hc.1.1) (Nat.le_of_ble_eq_true hc.1.2) hc.2
                  unfold Oper.wp
                  simp only [execOp, ev_eval hA hx, ev_eval hA hy, Sem.run_bind, hr, Result.andThen_ok, Sem.run_pure, Oper.upon]
                  exact hk _ _ hA (hI.wrote hlb hwr)
                · rw [Bool.not_eq_true] at hc
                  rw [hc] at he; cases he
              · cases he
          · rw [Bool.not_eq_true] at hs
            rw [hs] at he
            simp only [cond_false] at he
            cases hev : evStill T st.m st.l ro o.op h with
            | none => rw [hev] at he; cases he
            | some p =>
              obtain ⟨v, ys, zs, ds⟩ := p
              rw [hev] at he
              simp only [Option.some.injEq, Res.mk.injEq] at he
              obtain ⟨rfl, rfl, rfl, rfl⟩ := he
              have := evStill_sound (w := wa) hT hA hI.own hR hev hcs
              unfold Oper.wp
              rw [this]
              exact hk _ _ (hA.put hd') hI
    · rw [Bool.not_eq_true] at hd
      rw [hd] at he; cases he

/-- In the text's order: c operations are left, from k on. -/
def RV (P : Program) (n : NN) (ops : Array Oper) (Q : Exit → Act → World → Prop) (X S0 : Nat → Prop) (w0 : World) (c k : Nat) (S : Nat → Prop) (wr : World) (st : St) : Prop :=
  ∀ a wa, Agree n a st.m → Inv X S0 w0 S wr st.l wa → wpOps P ops Q (List.range' k c) a wa

/-- What stands is told of the world that is spoken of. -/
def ROS (ro : List RB) (S : Nat → Prop) (w : World) : Prop := (∀ rb ∈ ro, S rb.b) ∧ ROK ro w

theorem cell_same {w w' : World} {b o : Nat} (h : w'.heap[b]? = w.heap[b]?) : w'.cell? ⟨b, o, none⟩ = w.cell? ⟨b, o, none⟩ := by
  simp only [World.cell?, h]

theorem ROS.ok {ro : List RB} {S : Nat → Prop} {wr wa : World} (h : ROS ro S wr) (hx : ∀ b, S b → wa.heap[b]? = wr.heap[b]?) : ROK ro wa := fun rb hr k hk => by
  rw [cell_same (hx _ (h.1 rb hr))]; exact h.2 rb hr k hk

theorem ROS.ext {ro : List RB} {S S' : Nat → Prop} {w w' : World} (h : ROS ro S w) (hx : Ext S w S' w') : ROS ro S' w' :=
  ⟨fun rb hr => hx.sub _ (h.1 rb hr), h.ok hx.same⟩

theorem runOps_sound (hT : TabOK P T) {ro : List RB} : ∀ (hs : List Nat) (k : Nat) (st st' : St) (xs : List Nat) (cs : List Cond) {S : Nat → Prop} {wr : World}, runOps T n ops ro hs k st = some ⟨st', xs, xs, cs⟩ → Conds cs → ROS ro S wr →
    ∀ {a : Act} {wa : World}, Agree n a st.m → Inv X S0 w0 S wr st.l wa → ∀ {c : Nat},
    (∀ a' wa', Agree n a' st'.m → Inv X S0 w0 S wr st'.l wa' → wpOps P ops Q (List.range' (k + hs.length) c) a' wa') → wpOps P ops Q (List.range' k (hs.length + c)) a wa := by
  intro hs
  induction hs with
  | nil =>
    intro k st st' xs cs S wr he _ _ a wa hA hI c hk
    simp only [runOps, Option.some.injEq, Res.mk.injEq] at he
    obtain ⟨rfl, _⟩ := he
    simpa using hk a wa hA hI
  | cons h r ih =>
    intro k st st' xs cs S wr he hcs hro a wa hA hI c hk
    simp only [runOps] at he
    cases h1 : stepOp T n ops ro k h st with
    | none => rw [h1] at he; cases he
    | some p =>
      obtain ⟨st1, x1, y1, c1⟩ := p
      rw [h1] at he
      simp only at he
      cases h2 : runOps T n ops ro r (k + 1) st1 with
      | none => rw [h2] at he; cases he
      | some q =>
        obtain ⟨st2, x2, y2, c2⟩ := q
        rw [h2] at he
        simp only [Option.some.injEq, Res.mk.injEq] at he
        obtain ⟨rfl, e1, e2, rfl⟩ := he
        obtain ⟨rfl, rfl⟩ := List.append_inj (e1.trans e2.symm) (stepOp_len h1)
        have hc := hcs.app
        rw [show (h :: r).length + c = (r.length + c) + 1 from by simp; omega, List.range'_succ, wpOps_cons]
        refine stepOp_sound (S := S) (wr := wr) hT h1 hc.1 hA hI (hro.ok hI.ref) fun a' wa' hA' hI' => ?_
        refine ih (k + 1) st1 st2 x2 c2 h2 hc.2 hro hA' hI' fun a'' wa'' hA'' hI'' => ?_
        have := hk a'' wa'' hA'' hI''
        rwa [show k + (h :: r).length = k + 1 + r.length from by simp; omega] at this

theorem RV_run (hT : TabOK P T) {hs : List Nat} {c c' k k' : Nat} {S : Nat → Prop} {wr : World} {st : St} (ro : List RB) (ks : List Nat) (st' : St) (xs : List Nat) (cs : List Cond)
    (he : (runOps T n ops ro hs k st).map (fun r => ({ r with st := ⟨only ks r.st.m, r.st.l⟩ } : Res)) = some ⟨st', xs, xs, cs⟩)
    (hc : (Nat.beq c (hs.length + c') && Nat.beq k' (k + hs.length)) = true) (hro : ROS ro S wr) (hcs : Conds cs)
    (h : RV P n ops Q X S0 w0 c' k' S wr st') : RV P n ops Q X S0 w0 c k S wr st := by
  intro a wa hA hI
  cases hr : runOps T n ops ro hs k st with
  | none => rw [hr] at he; cases he
  | some p =>
    obtain ⟨st1, x1, y1, c1⟩ := p
    rw [hr] at he
    simp only [Option.map_some, Option.some.injEq, Res.mk.injEq] at he
    obtain ⟨rfl, rfl, rfl, rfl⟩ := he
    simp only [Bool.and_eq_true] at hc
    rw [Nat.eq_of_beq_eq_true hc.1]
    refine runOps_sound (S := S) (wr := wr) hT hs k st st1 _ _ hr hcs hro hA hI fun a' wa' hA' hI' => ?_
    rw [← Nat.eq_of_beq_eq_true hc.2]
    exact h a' wa' (hA'.only ks) hI'

theorem ROS_nil {S : Nat → Prop} {w : World} : ROS [] S w := ⟨fun _ h => (List.not_mem_nil h).elim, fun _ h => (List.not_mem_nil h).elim⟩

theorem ROS_cons {rb : RB} {ro : List RB} {S : Nat → Prop} {w : World} (h : ROS [rb] S w) (k : ROS ro S w) : ROS (rb :: ro) S w := by
  refine ⟨fun r hr => ?_, fun r hr => ?_⟩
  · rcases List.mem_cons.1 hr with e | h1
    · subst e; exact h.1 _ (by simp)
    · exact k.1 _ h1
  · rcases List.mem_cons.1 hr with e | h1
    · subst e; exact h.2 _ (by simp)
    · exact k.2 _ h1

/-- As RV_run, where nothing of what stands is looked at, and nothing can fail. -/
theorem RV_go (hT : TabOK P T) {hs : List Nat} {c c' k k' : Nat} {S : Nat → Prop} {wr : World} {st : St} (ks : List Nat) (st' : St) (xs : List Nat)
    (he : (runOps T n ops [] hs k st).map (fun r => ({ r with st := ⟨only ks r.st.m, r.st.l⟩ } : Res)) = some ⟨st', xs, xs, []⟩)
    (hc : (Nat.beq c (hs.length + c') && Nat.beq k' (k + hs.length)) = true)
    (h : RV P n ops Q X S0 w0 c' k' S wr st') : RV P n ops Q X S0 w0 c k S wr st :=
  RV_run hT [] ks st' xs [] he hc ROS_nil trivial h

theorem RV_is {c k : Nat} {S : Nat → Prop} {wr : World} {st : St} (t u : Bool) (stf : Bool → St) (he : st = stf t) (ht : t = u) (h : RV P n ops Q X S0 w0 c k S wr (stf u)) : RV P n ops Q X S0 w0 c k S wr st := by
  subst he ht; exact h

/-- A value in a slot that is not known yet is looked at. -/
theorem RV_case {c k : Nat} {S : Nat → Prop} {wr : World} {st : St} (t : Bool) (stf : Bool → St) (he : st = stf t)
    (h1 : t = true → RV P n ops Q X S0 w0 c k S wr (stf true)) (h0 : t = false → RV P n ops Q X S0 w0 c k S wr (stf false)) : RV P n ops Q X S0 w0 c k S wr st := by
  subst he
  cases t with
  | true => exact h1 rfl
  | false => exact h0 rfl

/-- Forget own blocks, and slots. -/
theorem RV_less {c k : Nat} {S : Nat → Prop} {wr : World} {st : St} (ks : List Nat) (st' : St) (hm : only ks st.m = st'.m) (hl : st'.l.Sublist st.l)
    (h : RV P n ops Q X S0 w0 c k S wr st') : RV P n ops Q X S0 w0 c k S wr st :=
  fun a wa hA hI => h a wa (hm ▸ hA.only ks) (hI.fewer hl)

/-- What may lie behind an operation that does something to the world, or draws on what was said of it. -/
def Does (P : Program) (n : NN) (ops : Array Oper) (Q : Exit → Act → World → Prop) (X S0 : Nat → Prop) (w0 : World) (i : Nat) (S : Nat → Prop) (wr : World) (st : St)
    (N : (Nat → Prop) → World → St → Prop) : Prop :=
  ∀ (a : Act) (wa : World) (K : Act → World → Prop), Agree n a st.m → Inv X S0 w0 S wr st.l wa →
    (∀ S' wr' st', N S' wr' st' → ∀ a' wa', Agree n a' st'.m → Inv X S0 w0 S' wr' st'.l wa' → K a' wa') → wpOp P ops Q i K a wa

theorem RV_does {c k : Nat} {S : Nat → Prop} {wr : World} {st : St} {N : (Nat → Prop) → World → St → Prop} (hd : Does P n ops Q X S0 w0 k S wr st N)
    (h : ∀ S' wr' st', N S' wr' st' → RV P n ops Q X S0 w0 c (k + 1) S' wr' st') : RV P n ops Q X S0 w0 (c + 1) k S wr st := by
  intro a wa hA hI
  rw [List.range'_succ, wpOps_cons]
  exact hd a wa _ hA hI fun S' wr' st' hN a' wa' hA' hI' => h S' wr' st' hN a' wa' hA' hI'

end
end Eng
end Go.YtmfkmoecbnghhaaDoor
