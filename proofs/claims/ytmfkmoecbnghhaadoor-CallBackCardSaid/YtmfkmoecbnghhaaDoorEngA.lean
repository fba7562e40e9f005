/- The symbolic executor's ground: what is known of a frame and of the own blocks, and that an operation that only reads comes to what 'evStill' says. -/
import Derived.OrdersHeld
import Derived.KernelRfl
import Derived.Below
import Derived.Laws.World
import Derived.Laws.Sem
namespace Go.YtmfkmoecbnghhaaDoor
namespace Eng

abbrev Mp := List (Nat × Value)

def look : Mp → Nat → Option Value
  | [], _ => none
  | (k, v) :: r, t => bif Nat.beq k t then some v else look r t

structure LB where
  id : Nat
  ty : TypeId
  cells : List Value

structure St where
  m : Mp
  l : List LB

/-- A frame's size, and the deferred calls that it bears. -/
structure NN where
  n : Nat
  D : List Deferred

instance : Coe NN Nat := ⟨NN.n⟩

structure Agree (n : NN) (a : Act) (m : Mp) : Prop where
  size : a.tmps.size = n.n
  defers : a.defers = n.D
  at' : ∀ t v, look m t = some v → a.tmps[t]? = some v

def ev (m : Mp) : Operand → Option Value
  | .tmp t => look m t
  | .const v => some v
  | .global g => some (.pointer (some ⟨g, 0, none⟩))
  | .func f => some (.func (.func f) #[] #[])

theorem ev_eval {n : NN} {a : Act} {m : Mp} {x : Operand} {v : Value} (h : Agree n a m) (e : ev m x = some v) : a.eval x = v := by
  cases x with
  | tmp t =>
    have := h.at' t v e
    simp [Act.eval, this]
  | const u => simpa [ev, Act.eval] using e
  | global g => simpa [ev, Act.eval] using e
  | func f => simpa [ev, Act.eval] using e

/-- A new value in a slot; what else is kept. -/
def put (m : Mp) (d : Option Nat) (v : Value) : Mp :=
  match d with
  | none => m
  | some t => (t, v) :: m

theorem look_put {m : Mp} {d t : Nat} {v : Value} : look ((d, v) :: m) t = if d = t then some v else look m t := by
  by_cases h : d = t
  · subst h; simp [look]
  · have : Nat.beq d t = false := by
      rw [← Bool.not_eq_true]; intro hb; exact h (Nat.eq_of_beq_eq_true hb)
    simp [look, this, h]

theorem Agree.put {n : NN} {a : Act} {m : Mp} {d : Option Nat} {v : Value} (h : Agree n a m) (hd : ∀ t, d = some t → t < n) :
    Agree n (a.put d v) (Eng.put m d v) := by
  cases d with
  | none => exact h
  | some t =>
    have ht := hd t rfl
    refine ⟨by simp [Act.put, h.size], by simp [Act.put, h.defers], fun u x hu => ?_⟩
    simp only [Eng.put, look_put] at hu
    simp only [Act.put]
    by_cases e : t = u
    · subst e
      simp at hu
      subst hu
      simp [h.size, ht]
    · rw [if_neg e] at hu
      rw [Array.getElem?_setIfInBounds_ne e]
      exact h.at' u x hu

/-- The slot is forgotten. -/
theorem Agree.put_any {n : NN} {a : Act} {m : Mp} {d : Option Nat} {v : Value} (h : Agree n a m) (hd : ∀ t, d = some t → look m t = none) :
    Agree n (a.put d v) m := by
  cases d with
  | none => exact h
  | some t =>
    refine ⟨by simp [Act.put, h.size], by simp [Act.put, h.defers], fun u x hu => ?_⟩
    have ht := hd t rfl
    simp only [Act.put]
    by_cases e : t = u
    · subst e; rw [ht] at hu; cases hu
    · rw [Array.getElem?_setIfInBounds_ne e]
      exact h.at' u x hu

/-- Only some slots are kept, in the order that is told. -/
def only : List Nat → Mp → Mp
  | [], _ => []
  | k :: r, m => match look m k with
    | some v => (k, v) :: only r m
    | none => only r m

theorem look_only {m : Mp} {t : Nat} {v : Value} : ∀ {ks : List Nat}, look (only ks m) t = some v → look m t = some v
  | [], h => by cases h
  | k :: r, h => by
    simp only [only] at h
    cases hk : look m k with
    | none => rw [hk] at h; exact look_only h
    | some u =>
      rw [hk] at h
      simp only [look_put] at h
      by_cases e : k = t
      · subst e; simp only [if_true] at h; rw [hk, h]
      · rw [if_neg e] at h; exact look_only h

theorem Agree.only {n : NN} {a : Act} {m : Mp} (h : Agree n a m) (ks : List Nat) : Agree n a (Eng.only ks m) :=
  ⟨h.size, h.defers, fun t v e => h.at' t v (look_only e)⟩

/-! ### The type table -/

structure TI where
  size : Nat
  zero : Value
  desc : TypeDesc

abbrev Tab := List (Nat × TI)

def Tab.get : Tab → Nat → Option TI
  | [], _ => none
  | (k, i) :: r, t => bif Nat.beq k t then some i else Tab.get r t

def TabOK (P : Program) : Tab → Prop
  | [] => True
  | (t, i) :: r => ((P.info? t).map fun x => (x.size, x.zero)) = some (i.size, some i.zero) ∧ P.underlying t = some i.desc ∧ TabOK P r

theorem TabOK.spec {P : Program} {T : Tab} (h : TabOK P T) {t : Nat} {i : TI} (e : T.get t = some i) :
    (∃ x, P.info? t = some x ∧ x.size = i.size ∧ x.zero = some i.zero) ∧ P.underlying t = some i.desc := by
  induction T with
  | nil => cases e
  | cons p r ih =>
    obtain ⟨k, j⟩ := p
    obtain ⟨h1, h2, h3⟩ := h
    simp only [Tab.get] at e
    by_cases hk : Nat.beq k t = true
    · rw [hk] at e
      simp only [cond_true, Option.some.injEq] at e
      subst e
      have hkt := Nat.eq_of_beq_eq_true hk
      subst hkt
      refine ⟨?_, h2⟩
      cases hx : P.info? k with
      | none => rw [hx] at h1; cases h1
      | some x => rw [hx] at h1; simp at h1; exact ⟨x, rfl, h1.1, h1.2⟩
    · rw [Bool.not_eq_true] at hk
      rw [hk] at e
      exact ih h3 e

def isAggD : TypeDesc → Bool
  | .struct _ | .array _ _ => true
  | _ => false

section runs
variable {P : Program} {T : Tab} {w : World}

theorem run_bind {α β : Type} (s : Sem α) (f : α → Sem β) (w : World) :
    (s >>= f).run P w = match s.run P w with | .ok a w' => (f a).run P w' | .halt h w' => .halt h w' :=
  Sem.run_bind' P s f w

theorem run_pure' {α : Type} (a : α) : (pure a : Sem α).run P w = .ok a w := rfl

theorem run_program : (program).run P w = .ok P w := rfl

theorem run_und (h : TabOK P T) {t : Nat} {i : TI} (e : T.get t = some i) : (underlying t).run P w = .ok i.desc w := by
  unfold underlying
  rw [run_bind, run_program]
  simp only [(h.spec e).2]
  rfl

theorem run_tinfo (h : TabOK P T) {t : Nat} {i : TI} (e : T.get t = some i) : ∃ x, (typeInfo t).run P w = .ok x w ∧ x.size = i.size ∧ x.zero = some i.zero := by
  obtain ⟨⟨x, hx, h1, h2⟩, _⟩ := h.spec e
  refine ⟨x, ?_, h1, h2⟩
  unfold typeInfo
  rw [run_bind, run_program]
  simp only [hx]
  rfl

theorem run_size (h : TabOK P T) {t : Nat} {i : TI} (e : T.get t = some i) : (sizeOf t).run P w = .ok i.size w := by
  obtain ⟨x, hx, h1, _⟩ := run_tinfo (w := w) h e
  unfold sizeOf
  rw [run_bind, hx]
  simp only [h1]
  rfl

theorem run_zero (h : TabOK P T) {t : Nat} {i : TI} (e : T.get t = some i) : (zeroValue t).run P w = .ok i.zero w := by
  obtain ⟨x, hx, _, h2⟩ := run_tinfo (w := w) h e
  unfold zeroValue
  rw [run_bind, hx]
  simp only [h2]
  rfl

theorem run_isAgg (h : TabOK P T) {t : Nat} {i : TI} (e : T.get t = some i) : (isAgg t).run P w = .ok (isAggD i.desc) w := by
  unfold isAgg
  rw [run_bind, run_und h e]
  cases i.desc <;> rfl

/-! ### Cells of a block -/

theorem cell_of {b o : Nat} {c : Array Value} {ty : TypeId} {fr : Nat × Nat} (h : w.heap[b]? = some (.cells c ty fr)) : w.cell? ⟨b, o, none⟩ = c[o]? := by
  simp [World.cell?, h]

theorem addr_add (b o n : Nat) : (⟨b, o, none⟩ : Addr).add n = ⟨b, o + n, none⟩ := by
  unfold Addr.add
  by_cases h : n = 0
  · subst h; rfl
  · rw [if_neg h]

theorem run_load {a : Addr} {v : Value} (h : w.cell? a = some v) : (load a).run P w = .ok v w := by
  unfold load
  simp only [Sem.run, h]

/-- The cells of a row from a place on. -/
theorem run_loadCellsFrom {b o : Nat} : ∀ (n i : Nat) (acc : Array Value) (vs : List Value), vs.length = n →
    (∀ k (hk : k < vs.length), w.cell? ⟨b, o + i + k, none⟩ = some vs[k]) →
    (loadCellsFrom ⟨b, o, none⟩ i n acc).run P w = .ok (acc ++ vs.toArray) w := by
  intro n
  induction n with
  | zero =>
    intro i acc vs hl _
    cases vs with
    | nil => simp [loadCellsFrom]
    | cons _ _ => simp at hl
  | succ n ih =>
    intro i acc vs hl hc
    cases vs with
    | nil => simp at hl
    | cons v r =>
      unfold loadCellsFrom
      have h0 := hc 0 (by simp)
      rw [run_bind, addr_add, run_load (by simpa using h0)]
      simp only []
      rw [ih (i + 1) (acc.push v) r (by simpa using hl)]
      · simp
      · intro k hk
        have := hc (k + 1) (by simp; omega)
        simp only [List.getElem_cons_succ] at this
        rw [← this, show o + (i + 1) + k = o + i + (k + 1) from by omega]

theorem run_loadCells {b o : Nat} (vs : List Value) (hc : ∀ k (hk : k < vs.length), w.cell? ⟨b, o + k, none⟩ = some vs[k]) :
    (loadCells ⟨b, o, none⟩ vs.length).run P w = .ok vs.toArray w := by
  unfold loadCells
  rw [run_loadCellsFrom vs.length 0 #[] vs rfl (by simpa using hc)]
  simp

/-- The value of a variable out of its cells. -/
def whole (i : TI) (vs : List Value) : Option Value :=
  bif Nat.beq vs.length i.size then (bif isAggD i.desc then some (.agg vs.toArray) else vs.head?) else none

theorem run_loadVar (h : TabOK P T) {t : Nat} {i : TI} (e : T.get t = some i) {b o : Nat} {vs : List Value} {v : Value}
    (hw : whole i vs = some v) (hc : ∀ k (hk : k < vs.length), w.cell? ⟨b, o + k, none⟩ = some vs[k]) :
    (loadVar t ⟨b, o, none⟩).run P w = .ok v w := by
  unfold whole at hw
  by_cases hl : Nat.beq vs.length i.size = true
  · rw [hl] at hw
    have hl' := Nat.eq_of_beq_eq_true hl
    unfold loadVar
    rw [run_bind, run_isAgg h e]
    simp only []
    by_cases ha : isAggD i.desc = true
    · rw [ha] at hw ⊢
      simp only [cond_true, Option.some.injEq] at hw
      subst hw
      simp only [if_true]
      rw [run_bind, run_size h e]
      simp only []
      rw [run_bind, ← hl', run_loadCells vs hc]
      rfl
    · rw [Bool.not_eq_true] at ha
      rw [ha] at hw ⊢
      simp only [cond_true, cond_false] at hw
      simp only [Bool.false_eq_true, if_false]
      cases vs with
      | nil => simp at hw
      | cons x r =>
        simp at hw; subst hw
        exact run_load (hc 0 (by simp))
  · rw [Bool.not_eq_true] at hl
    rw [hl] at hw; cases hw

theorem run_loadAt (h : TabOK P T) {t : Nat} {i : TI} (e : T.get t = some i) {b o : Nat} {vs : List Value} {v : Value}
    (hw : whole i vs = some v) (hc : ∀ k (hk : k < vs.length), w.cell? ⟨b, o + k, none⟩ = some vs[k]) :
    (Instr.loadAt t (.pointer (some ⟨b, o, none⟩))).run P w = .ok v w := by
  unfold Instr.loadAt
  rw [run_bind]
  show (match (Sem.pure (⟨b, o, none⟩ : Addr)).run P w with | .ok a w' => (loadVar t a).run P w' | .halt h w' => .halt h w') = _
  simp only [Sem.run]
  exact run_loadVar h e hw hc

end runs
end Eng
end Go.YtmfkmoecbnghhaaDoor
