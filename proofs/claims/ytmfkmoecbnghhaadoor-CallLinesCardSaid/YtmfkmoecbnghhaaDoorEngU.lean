/- A range over a function, as one step: the iterator's contract, an invariant between the rounds, and the body walked once. -/
import Derived.Test.YtmfkmoecbnghhaaDoorEngR
namespace Go.YtmfkmoecbnghhaaDoor
namespace Eng

/-- w' is w but for the blocks of B, and new blocks. -/
structure ButS (B : Nat → Prop) (w w' : World) : Prop where
  os : w'.os = w.os
  tape : w'.tape = w.tape
  output : w'.output = w.output
  size : w.heap.size ≤ w'.heap.size
  block : ∀ k, k < w.heap.size → ¬ B k → w'.heap[k]? = w.heap[k]?

/-- What the rounds do with an iterator's values, one by one. B: the iterator's own blocks; Kp: what the rounds keep. -/
structure RoundsG (P : Program) (l : Nat) (B Kp : Nat → Prop) {σ : Type} (nx : σ → Option (List Value × σ)) (J : σ → World → Prop) (Jx : World → Prop) : Prop where
  keep : ∀ s W W', J s W → ButS B W W' → J s W'
  keepx : ∀ W W', Jx W → ButS B W W' → Jx W'
  round : ∀ s vs s' W, nx s = some (vs, s') → J s W → (∀ b, Kp b → b < W.heap.size) → ∃ fn tmps assign body, (Instr.yield l vs.toArray).run P W = .ok (.round l fn tmps assign body) W ∧
    RoundIn Fence.wide 0 P l fn tmps assign body W fun e W' => ButS (fun b => ¬ Kp b) W W' ∧ ((e = .returned (.bool true) ∧ J s' W') ∨ (e = .returned (.bool false) ∧ Jx W'))

/-- The contract of an iterator: it hands the values of s0 on, one by one. -/
def Iter (P : Program) (gf : FuncId) (u c : List Value) (li : List LB) (S : Nat → Prop) (w : World) {σ : Type} (nx : σ → Option (List Value × σ)) (s0 : σ) : Prop :=
  ∀ l W (J : σ → World → Prop) (Jx : World → Prop), RoundsG P l (idsOf li) (fun b => S b ∨ idsOf li b) nx J Jx → Ext S w S W → (∀ b, S b → b < W.heap.size) → OwnL li W → (∀ lb ∈ li, ¬ S lb.id) → J s0 W →
    Calls P gf (u ++ .func (.yield l) #[] #[] :: c).toArray W fun e w' => ∃ v, e = .returned v ∧ (w'.os = W.os ∧ w'.tape = W.tape ∧ w'.output = W.output) ∧ ((∃ s, nx s = none ∧ J s w') ∨ Jx w')

section
variable {P : Program} {T : Tab} {X S0 : Nat → Prop} {w0 : World} {S : Nat → Prop} {wr : World} {st : St} {K : Exit → Act → World → Prop} {n : NN} {nn : Nat}

/-- What was known, and what is known since a world in between. -/
theorem Inv.comp {l l' : List LB} {S' : Nat → Prop} {W wr' wa : World} (h : Inv X S0 w0 S wr l W) (k : Inv (idsOf l) S W S' wr' l' wa) : Inv X S0 w0 S' wr' l' wa := by
  refine ⟨k.own, k.nd, k.sep, k.ref, k.lt, h.ext.trans k.ext, fun b hb => ?_, ⟨k.base.os.trans h.base.os, k.base.tape.trans h.base.tape, k.base.output.trans h.base.output, Nat.le_trans h.base.size k.base.size, fun b hb hx => ?_⟩, fun lb hl => ?_⟩
  · rcases k.old b hb with h1 | h1
    · exact h.old b h1
    · exact .inr (Nat.le_trans h.base.size h1)
  · rw [k.base.block b (Nat.lt_of_lt_of_le hb h.base.size), h.base.block b hb hx]
    rintro ⟨lb, hl, rfl⟩
    rcases h.mine lb hl with h1 | h1
    · omega
    · exact hx h1
  · rcases k.mine lb hl with h1 | ⟨lc, h1, h2⟩
    · exact .inl (Nat.le_trans h.base.size h1)
    · rw [h2]; exact h.mine lc h1

/-- From here on told of this world. -/
theorem Inv.rebase {l : List LB} {W : World} (h : Inv X S0 w0 S wr l W) : Inv (idsOf l) S W S wr l W :=
  ⟨h.own, h.nd, h.sep, h.ref, h.lt, Ext.refl _ _, fun _ h => .inl h, Keep.refl _ _, fun lb hl => .inr ⟨lb, hl, rfl⟩⟩

/-- Blocks turn of which nothing is known. -/
theorem Inv.but {l : List LB} {W W' : World} {B : Nat → Prop} (h : Inv X S0 w0 S wr l W) (k : ButS B W W') (hS : ∀ b, S b → ¬ B b) (hl : ∀ lb ∈ l, ¬ B lb.id) (hB : ∀ b, B b → w0.heap.size ≤ b ∨ X b) : Inv X S0 w0 S wr l W' := by
  refine ⟨fun lb hm => ?_, h.nd, h.sep, fun b hb => ?_, fun b hb => Nat.lt_of_lt_of_le (h.lt b hb) k.size, ⟨h.ext.sub, fun b hb => ?_⟩, h.old, ⟨k.os.trans h.base.os, k.tape.trans h.base.tape, k.output.trans h.base.output, Nat.le_trans h.base.size k.size, fun b hb hx => ?_⟩, h.mine⟩
  · rw [k.block _ (h.id_lt hm) (hl lb hm)]; exact h.own lb hm
  · rw [k.block b (h.lt b hb) (hS b hb)]; exact h.ref b hb
  · rw [k.block b (h.lt b (h.ext.sub b hb)) (hS b (h.ext.sub b hb))]; exact h.ext.same b hb
  · rw [k.block b (Nat.lt_of_lt_of_le hb h.base.size) (fun hbb => by
      rcases hB b hbb with h1 | h1
      · omega
      · exact hx h1)]
    exact h.base.block b hb hx

theorem ButS.put {w : World} {r : Nat} {o : Obj} : ButS (· = r) w (w.putObj r o) :=
  ⟨rfl, rfl, rfl, by simp, fun _ _ h => World.putObj_heap_other h⟩

theorem ButS.alloc (B : Nat → Prop) (w : World) (o : Obj) : ButS B w (w.alloc o) :=
  ⟨rfl, rfl, rfl, by simp, fun k hk _ => by show (w.heap.push o)[k]? = _; rw [Array.getElem?_push, if_neg (by omega)]⟩

theorem ButS.trans {B : Nat → Prop} {w w' w'' : World} (h : ButS B w w') (k : ButS B w' w'') : ButS B w w'' :=
  ⟨k.os.trans h.os, k.tape.trans h.tape, k.output.trans h.output, Nat.le_trans h.size k.size, fun b hb hx => (k.block b (Nat.lt_of_lt_of_le hb h.size) hx).trans (h.block b hb hx)⟩

theorem ButS.mono {B B' : Nat → Prop} {w w' : World} (h : ButS B w w') (hs : ∀ b, b < w.heap.size → B b → B' b) : ButS B' w w' :=
  ⟨h.os, h.tape, h.output, h.size, fun b hb hx => h.block b hb fun hB => hx (hs b hb hB)⟩

theorem Keep.but {w w' : World} {Y : Nat → Prop} (h : Keep Y w w') : ButS Y w w' := ⟨h.os, h.tape, h.output, h.size, h.block⟩

/-- How a round may end. -/
def RoundK {σ : Type} (M : σ → (Nat → Prop) → World → List LB → Prop) (Mx : Code → (Nat → Prop) → World → List LB → Prop) (s' : σ) (X S0 : Nat → Prop) (w0 : World) : Exit → Act → World → Prop
  | .normal, _, w => ∃ S wr lo, M s' S wr lo ∧ Inv X S0 w0 S wr lo w
  | .ret, _, w => ∃ S wr lo, Mx .ret S wr lo ∧ Inv X S0 w0 S wr lo w
  | .exit id, _, w => ∃ S wr lo, Mx (.exit id) S wr lo ∧ Inv X S0 w0 S wr lo w
  | _, _, _ => False

instance {σ : Type} {M : σ → (Nat → Prop) → World → List LB → Prop} {Mx : Code → (Nat → Prop) → World → List LB → Prop} {s' : σ} : NoOut (RoundK M Mx s' X S0 w0) := ⟨fun _ _ h => h⟩
instance {σ : Type} {M : σ → (Nat → Prop) → World → List LB → Prop} {Mx : Code → (Nat → Prop) → World → List LB → Prop} {s' : σ} : NoPanic (RoundK M Mx s' X S0 w0) := ⟨fun _ _ _ h => h⟩
instance : NoPanic (fun (_ : Exit) (_ : Act) (_ : World) => False) := ⟨fun _ _ _ h => h⟩

/-- Where the loop's left sides have been assigned to: the body is to be walked. -/
def BeginK (P : Program) (nn l : Nat) (body : Code) (RK : (Nat → Prop) → (Nat → Prop) → World → Exit → Act → World → Prop) (X S0 : Nat → Prop) (w0 : World) (a : Act) (wa : World) : Prop :=
  ∃ m S wr lo, Agree ⟨nn, []⟩ a m ∧ Inv X S0 w0 S wr lo wa ∧ ∀ w2, VCI P ⟨nn, []⟩ l body (RK (idsOf lo) S w2) (idsOf lo) S w2 S wr ⟨m, lo⟩

theorem KE_begin {l : Nat} {body : Code} {RK : (Nat → Prop) → (Nat → Prop) → World → Exit → Act → World → Prop} {KF : Exit → Act → World → Prop}
    (h : ∀ w2, VCI P ⟨nn, []⟩ l body (RK (idsOf st.l) S w2) (idsOf st.l) S w2 S wr st) : KE ⟨nn, []⟩ .normal (Exit.then (BeginK P nn l body RK X S0 w0) KF) X S0 w0 S wr st :=
  fun _ _ hA hI => ⟨st.m, S, wr, st.l, hA, hI, h⟩

variable {σ : Type} {M : σ → (Nat → Prop) → World → List LB → Prop} {Mx : Code → (Nat → Prop) → World → List LB → Prop} {s' : σ}

theorem KE_round_on (h : M s' S wr st.l) : KE n .normal (RoundK M Mx s' X S0 w0) X S0 w0 S wr st := fun _ _ _ hI => ⟨S, wr, st.l, h, hI⟩
theorem KE_round_ret (h : Mx .ret S wr st.l) : KE n .ret (RoundK M Mx s' X S0 w0) X S0 w0 S wr st := fun _ _ _ hI => ⟨S, wr, st.l, h, hI⟩
theorem KE_round_exit {id : Nat} (h : Mx (.exit id) S wr st.l) : KE n (.exit id) (RoundK M Mx s' X S0 w0) X S0 w0 S wr st := fun _ _ _ hI => ⟨S, wr, st.l, h, hI⟩

/-- The slots with the loop's parameters in them. -/
def putAll : List Nat → List Value → Mp → Mp
  | p :: ps, v :: vs, m => putAll ps vs ((p, v) :: m)
  | _, _, m => m

theorem Agree.putAll {D : List Deferred} : ∀ {ps : List Nat} {vs : List Value} {tmps : Array Value} {m : Mp}, Agree ⟨nn, D⟩ { tmps := tmps, defers := D } m → (∀ p ∈ ps, p < nn) →
    Agree ⟨nn, D⟩ { tmps := (ps.zip vs).foldl (fun t (p, v) => t.setIfInBounds p v) tmps, defers := D } (Eng.putAll ps vs m)
  | [], _, _, _, h, _ => by simpa [Eng.putAll] using h
  | _ :: _, [], _, _, h, _ => by simpa [Eng.putAll] using h
  | p :: ps, v :: vs, tmps, m, h, hp => by
    have h1 := Agree.put (d := some p) (v := v) h (fun t e => by cases e; exact hp p (by simp))
    exact Agree.putAll (ps := ps) (vs := vs) h1 fun q hq => hp q (by simp [hq])

/-- The mark that a range over a function leaves among a frame's deferred calls. -/
abbrev mark (D : Nat) : List Deferred := [{ target := .collected D, args := #[] }]

/-- What is known of the deferred calls' block. -/
structure DefB (D : Nat) (w0 : World) (S : Nat → Prop) (l : List LB) (W : World) : Prop where
  here : W.heap[D]? = some (.deferred (some []))
  new : w0.heap.size ≤ D
  out : ¬ S D
  own : ∀ lb ∈ l, lb.id ≠ D

theorem resolve_range {a : Act} {gg : Operand} {l : Nat} {gf : FuncId} {u c : Array Value} {W : World} (h : a.eval gg = .func (.func gf) u c) :
    (resolve a.eval (rangeCall gg l) 0).run P W = .ok { target := .fn (.func gf) c, args := u ++ #[.func (.yield l) #[] #[]] } W := by
  simp only [resolve, h]
  simp [go_sem]

/-- The book-keeping between the rounds. -/
structure Book (li : List LB) (S : Nat → Prop) (D : Nat) (r : Loop) (S1 : Nat → Prop) (lo1 : List LB) (W : World) : Prop where
  sub : ∀ b, S b → S1 b
  lp : W.heap[D + 1]? = some (.loop r)
  dfr : W.heap[D]? = some (.deferred (some []))
  nS : ¬ S1 (D + 1) ∧ ¬ S1 D
  nO : ∀ lb ∈ lo1, lb.id ≠ D + 1 ∧ lb.id ≠ D
  liS : ∀ lb ∈ li, ¬ S1 lb.id
  liO : ∀ lb ∈ lo1, ¬ idsOf li lb.id
  liD : ∀ lb ∈ li, lb.id < D

theorem heap_lt {W : World} {k : Nat} {o : Obj} (h : W.heap[k]? = some o) : k < W.heap.size := (Array.getElem?_eq_some_iff.1 h).1

theorem Book.step {li : List LB} {D : Nat} {r : Loop} {S1 S2 : Nat → Prop} {lo1 lo2 : List LB} {W W' wr2 : World} (h : Book li S D r S1 lo1 W) (k : Inv (idsOf lo1) S1 W S2 wr2 lo2 W') : Book li S D r S2 lo2 W' := by
  have hL := heap_lt h.lp
  have hD := heap_lt h.dfr
  refine ⟨fun b hb => k.ext.sub b (h.sub b hb), ?_, ?_, ⟨fun hs => ?_, fun hs => ?_⟩, fun lb hl => ?_, fun lb hl hs => ?_, fun lb hl hi => ?_, h.liD⟩
  · rw [k.base.block _ hL (fun ⟨lb, h1, h2⟩ => (h.nO lb h1).1 h2.symm)]; exact h.lp
  · rw [k.base.block _ hD (fun ⟨lb, h1, h2⟩ => (h.nO lb h1).2 h2.symm)]; exact h.dfr
  · rcases k.old _ hs with h1 | h1
    · exact h.nS.1 h1
    · omega
  · rcases k.old _ hs with h1 | h1
    · exact h.nS.2 h1
    · omega
  · rcases k.mine lb hl with h1 | ⟨lc, h1, h2⟩
    · omega
    · rw [h2]; exact h.nO lc h1
  · have h3 := h.liD lb hl
    rcases k.old _ hs with h1 | h1
    · exact h.liS lb hl h1
    · omega
  · rcases k.mine lb hl with h1 | ⟨lc, h1, h2⟩
    · obtain ⟨ld, h3, h4⟩ := hi
      have := h.liD ld h3
      omega
    · rw [h2] at hi; exact h.liO lc h1 hi

theorem Book.put {li : List LB} {D : Nat} {r r' : Loop} {S1 : Nat → Prop} {lo1 : List LB} {W : World} (h : Book li S D r S1 lo1 W) : Book li S D r' S1 lo1 (W.putObj (D + 1) (.loop r')) :=
  ⟨h.sub, World.putObj_heap_same (heap_lt h.lp), (World.putObj_heap_other (by omega)).trans h.dfr, h.nS, h.nO, h.liS, h.liO, h.liD⟩

theorem Book.but {li : List LB} {D : Nat} {r : Loop} {S1 : Nat → Prop} {lo1 : List LB} {W W' : World} (h : Book li S D r S1 lo1 W) (k : ButS (idsOf li) W W') : Book li S D r S1 lo1 W' := by
  refine ⟨h.sub, ?_, ?_, h.nS, h.nO, h.liS, h.liO, h.liD⟩
  · rw [k.block _ (heap_lt h.lp) (fun ⟨lb, h1, h2⟩ => by have := h.liD lb h1; omega)]; exact h.lp
  · rw [k.block _ (heap_lt h.dfr) (fun ⟨lb, h1, h2⟩ => by have := h.liD lb h1; omega)]; exact h.dfr

theorem Book.putI {li : List LB} {D : Nat} {r : Loop} {S1 : Nat → Prop} {lo1 : List LB} {W wr1 : World} (h : Book li S D r S1 lo1 W) (hI : Inv X S0 w0 S1 wr1 lo1 W) (hw : w0.heap.size ≤ D) (o : Obj) : Inv X S0 w0 S1 wr1 lo1 (W.putObj (D + 1) o) :=
  hI.but ButS.put (fun b hb e => h.nS.1 (e ▸ hb)) (fun lb hl e => (h.nO lb hl).1 e) (fun b e => .inl (by omega))

theorem VC_range {g : Operand} {ps : Array Tmp} {assign body : Code} {gf : FuncId} {u c : Array Value} (li lo : List LB) (nx : σ → Option (List Value × σ)) (s0 : σ)
    (M : σ → (Nat → Prop) → World → List LB → Prop) (Mx : Code → (Nat → Prop) → World → List LB → Prop)
    (hg : ev st.m g = some (.func (.func gf) u c)) (hE : Enters P gf) (hl : st.l = li ++ lo) (hps : ps.toList.all (fun p => Nat.blt p nn) = true)
    (hnx : ∀ s vs s', nx s = some (vs, s') → vs.length = ps.size) (hIt : ∀ W, Ext S wr S W → Iter P gf u.toList c.toList li S W nx s0) (h0 : M s0 S wr lo)
    (hround : ∀ l s vs s' S1 wr1 lo1 W, nx s = some (vs, s') → M s S1 wr1 lo1 →
      VCI P ⟨nn, []⟩ l assign (Exit.then (BeginK P nn l body (RoundK M Mx s') (idsOf lo1) S1 W) (fun _ _ _ => False)) (idsOf lo1) S1 W S1 wr1 ⟨putAll ps.toList vs st.m, lo1⟩)
    (hdone : ∀ D s S1 wr1 lo1 W, nx s = none → M s S1 wr1 lo1 → Inv X S0 w0 S1 wr1 lo1 W → DefB D w0 S1 lo1 W → ∀ a, Agree ⟨nn, mark D⟩ a st.m → K .normal a W)
    (hstop : ∀ D c S1 wr1 lo1 W, Mx c S1 wr1 lo1 → Inv X S0 w0 S1 wr1 lo1 W → DefB D w0 S1 lo1 W → ∀ a, Agree ⟨nn, mark D⟩ a st.m → c.wp P K a W) :
    VC P ⟨nn, []⟩ (.rangeFunc g ps assign body) K X S0 w0 S wr st := by
  intro a wa hA hI
  rw [hl] at hI
  refine (wpIn_wide (n := 0)).1 (wpIn_rangeFunc fun fn _ => ?_)
  obtain ⟨D, hD⟩ : ∃ D, D = wa.heap.size := ⟨_, rfl⟩
  obtain ⟨rec, hrec⟩ : ∃ rec : LoopState → Option Code → Loop, rec = fun st pe => { state := st, pending := pe, fn, tmps := a.tmps, params := ps, assign, body, defers := wa.heap.size } := ⟨_, rfl⟩
  obtain ⟨W1, hW1⟩ : ∃ W1, (wa.alloc (.deferred (some []))).alloc (.loop (rec .ready none)) = W1 := ⟨_, rfl⟩
  have hw0 : w0.heap.size ≤ D := hD ▸ hI.base.size
  have hL1 : W1.heap[D + 1]? = some (.loop (rec .ready none)) := by
    rw [← hW1, hD]; have := World.alloc_heap_new (wa.alloc (.deferred (some []))) (.loop (rec .ready none)); rwa [World.size_alloc] at this
  have hold : ∀ k, k < wa.heap.size → W1.heap[k]? = wa.heap[k]? := fun k hk => by
    rw [← hW1]
    show ((wa.heap.push _).push _)[k]? = _
    rw [Array.getElem?_push, if_neg (by simp; omega), Array.getElem?_push, if_neg (by omega)]
  have hD1 : W1.heap[D]? = some (.deferred (some [])) := by
    rw [← hW1, hD]
    show ((wa.heap.push _).push _)[wa.heap.size]? = _
    rw [Array.getElem?_push, if_neg (by simp), Array.getElem?_push, if_pos rfl]
  have hal : ButS (fun _ => False) wa W1 := by rw [← hW1]; exact (ButS.alloc _ _ _).trans (ButS.alloc _ _ _)
  have hI1 : Inv X S0 w0 S wr (li ++ lo) W1 := hI.but hal (fun _ _ h => h) (fun _ _ h => h) (fun _ h => h.elim)
  have hsub : lo.Sublist (li ++ lo) := List.sublist_append_right li lo
  have hnd := List.pairwise_append.1 hI.nd
  have hlt : ∀ lb ∈ li ++ lo, lb.id < D := fun lb h => hD ▸ hI.id_lt h
  have hbook : Book li S D (rec .ready none) S lo W1 := ⟨fun _ h => h, hL1, hD1, ⟨fun h => by have := hI.lt _ h; omega, fun h => by have := hI.lt _ h; omega⟩,
    fun lb h => by have := hlt lb (by simp [h]); omega, fun lb h => hI.sep lb (by simp [h]), fun lb h ⟨lc, h1, h2⟩ => hnd.2.2 lc h1 lb h h2.symm, fun lb h => hlt lb (by simp [h])⟩
  have hliX : ∀ b, idsOf li b → w0.heap.size ≤ b ∨ X b := fun b ⟨lb, h1, h2⟩ => h2 ▸ hI.mine lb (by simp [h1])
  refine ⟨D + 1, mark D, W1, { target := .fn (.func gf) c, args := u ++ #[.func (.yield (D + 1)) #[] #[]] }, W1, gf, u ++ #[.func (.yield (D + 1)) #[] #[]] ++ c, W1, ?_, resolve_range (ev_eval hA hg), fun _ _ => trivial, ?_, fun hx => absurd hx (by simp [Fence.wide]), ?_⟩
  · rw [← hW1, hrec, hD]; exact run_enterLoop_outer _ _ _ _ _
  · simp only [invoke, callFunc, Sem.run_bind, run_program, Result.andThen_ok]
    unfold Enters at hE
    cases hf : P.funcs[gf]? with
    | none => rw [hf] at hE; cases hE
    | some fn =>
      rw [hf] at hE
      simp only [Option.map_some, Option.some.injEq, Prod.mk.injEq] at hE
      simp only [hE.1, hE.2, Bool.false_eq_true, if_false, Sem.run_pure]
  have hargs : u ++ #[Value.func (.yield (D + 1)) #[] #[]] ++ c = (u.toList ++ Value.func (.yield (D + 1)) #[] #[] :: c.toList).toArray := by apply Array.ext'; simp
  rw [hargs]
  refine callsIn_wide.2 ((hIt W1 ⟨fun _ h => h, hI1.ref⟩ (D + 1) W1 (fun s W => ∃ S1 wr1 lo1, M s S1 wr1 lo1 ∧ Inv X S0 w0 S1 wr1 lo1 W ∧ Book li S D (rec .ready none) S1 lo1 W)
    (fun W => ∃ c S1 wr1 lo1, Mx c S1 wr1 lo1 ∧ Inv X S0 w0 S1 wr1 lo1 W ∧ Book li S D (rec .done (some c)) S1 lo1 W) ⟨?_, ?_, ?_⟩ (Ext.refl _ _) hI1.lt (fun lb h => hI1.own lb (by simp [h])) (fun lb h => hI.sep lb (by simp [h])) ⟨S, wr, lo, h0, hI1.fewer hsub, hbook⟩).mono ?_)
  · rintro s W W' ⟨S1, wr1, lo1, hM, hIn, hB⟩ hk
    exact ⟨S1, wr1, lo1, hM, hIn.but hk (fun b hb ⟨lb, h1, h2⟩ => hB.liS lb h1 (h2 ▸ hb)) hB.liO hliX, hB.but hk⟩
  · rintro W W' ⟨cx, S1, wr1, lo1, hM, hIn, hB⟩ hk
    exact ⟨cx, S1, wr1, lo1, hM, hIn.but hk (fun b hb ⟨lb, h1, h2⟩ => hB.liS lb h1 (h2 ▸ hb)) hB.liO hliX, hB.but hk⟩
  · rintro s vs s' W hs ⟨S1, wr1, lo1, hM, hIn, hB⟩ hKp
    have hy := run_yield (P := P) (args := vs.toArray) hB.lp (by rw [hrec]; simp [hnx s vs s' hs])
    rw [hrec] at hy
    refine ⟨fn, _, assign, body, hy, roundIn_of_wpIn trivial ?_⟩
    have hA0 : Agree ⟨nn, []⟩ { tmps := (ps.toList.zip vs).foldl (fun t (p, v) => t.setIfInBounds p v) a.tmps, defers := [] } (putAll ps.toList vs st.m) :=
      Agree.putAll ⟨hA.size, rfl, hA.at'⟩ fun p hp => Nat.le_of_ble_eq_true (List.all_eq_true.1 hps p hp)
    have etmps : (ps.zip vs.toArray).foldl (fun tmps (t, a) => tmps.setIfInBounds t a) a.tmps = (ps.toList.zip vs).foldl (fun t (p, v) => t.setIfInBounds p v) a.tmps := by
      rw [← Array.foldl_toList, Array.toList_zip]
    rw [etmps]
    have hIn0 := hIn.rebase
    refine wpIn_mono (hround (D + 1) s vs s' S1 wr1 lo1 W hs hM _ W hA0 hIn0) ?_
    intro e a1 wa1 he
    cases e <;> try exact he
    obtain ⟨m1, S2, wr2, lo2, hA1, hI2, hb⟩ := he
    have hB2 := hB.step hI2
    have hX2 := hIn.comp hI2
    refine ⟨_, run_beginRound hB2.lp (by rw [hrec]), ?_⟩
    obtain ⟨w2, hw2⟩ : ∃ w2, wa1.putObj (D + 1) (.loop { rec .ready none with state := .busy }) = w2 := ⟨_, rfl⟩
    rw [hw2]
    have hX2' : Inv X S0 w0 S2 wr2 lo2 w2 := hw2 ▸ hB2.putI hX2 hw0 _
    have hB2' : Book li S D { rec .ready none with state := .busy } S2 lo2 w2 := hw2 ▸ hB2.put
    have hk1 : ButS (fun b => ¬ (S b ∨ idsOf li b)) W wa1 := hI2.base.but.mono fun b _ ⟨lb, h1, h2⟩ hn => by
      rcases hn with hn | hn
      · exact hIn.sep lb h1 (hB.sub _ (h2 ▸ hn))
      · exact hB.liO lb h1 (h2 ▸ hn)
    have hDp : ¬ (S (D + 1) ∨ idsOf li (D + 1)) := fun h => by
      rcases h with h | ⟨lb, h1, h2⟩
      · have := hI.lt _ h; omega
      · have := hlt lb (by simp [h1]); omega
    have hk2 : ButS (fun b => ¬ (S b ∨ idsOf li b)) W w2 := hk1.trans (hw2 ▸ ButS.put.mono fun b _ e => by rw [e]; exact hDp)
    refine wpIn_mono (hb w2 _ w2 hA1 hX2'.rebase) ?_
    have fin : ∀ (jump : Option Code) {S3 : Nat → Prop} {wr3 : World} {lo3 : List LB} {w3 : World}, Inv (idsOf lo2) S2 w2 S3 wr3 lo3 w3 →
        ∃ w4, (Instr.endRound (D + 1) jump).run P w3 = .ok (.bool jump.isNone) w4 ∧ ButS (fun b => ¬ (S b ∨ idsOf li b)) W w4 ∧ Inv X S0 w0 S3 wr3 lo3 w4 ∧ Book li S D (rec (if jump.isNone then .ready else .done) jump) S3 lo3 w4 := by
      intro jump S3 wr3 lo3 w3 hI3
      have hB3 := hB2'.step hI3
      have he := run_endRound (P := P) jump hB3.lp
      have er : ({ { rec .ready none with state := .busy } with state := if jump.isNone then .ready else .done, pending := jump } : Loop) = rec (if jump.isNone then .ready else .done) jump := by rw [hrec]
      rw [er] at he
      refine ⟨_, he, ?_, ?_, hB3.put⟩
      · refine (hk2.trans (hI3.base.but.mono fun b hb ⟨lb, h1, h2⟩ hn => ?_)).trans (ButS.put.mono fun b _ e => by rw [e]; exact hDp)
        rcases hn with hn | hn
        · exact hX2.sep lb h1 (hB2.sub _ (h2 ▸ hn))
        · exact hB2.liO lb h1 (h2 ▸ hn)
      · exact hB3.putI (hX2'.comp hI3) hw0 _
    intro e a3 w3 hp
    cases e with
    | normal =>
      obtain ⟨S3, wr3, lo3, hM3, hI3⟩ := hp
      obtain ⟨w4, h1, h2, h3, h4⟩ := fin none hI3
      exact ⟨_, w4, h1, h2, .inl ⟨rfl, S3, wr3, lo3, hM3, h3, h4⟩⟩
    | ret =>
      obtain ⟨S3, wr3, lo3, hM3, hI3⟩ := hp
      obtain ⟨w4, h1, h2, h3, h4⟩ := fin (some .ret) hI3
      exact ⟨_, w4, h1, h2, .inr ⟨rfl, .ret, S3, wr3, lo3, hM3, h3, h4⟩⟩
    | exit id =>
      obtain ⟨S3, wr3, lo3, hM3, hI3⟩ := hp
      obtain ⟨w4, h1, h2, h3, h4⟩ := fin (some (.exit id)) hI3
      exact ⟨_, w4, h1, h2, .inr ⟨rfl, .exit id, S3, wr3, lo3, hM3, h3, h4⟩⟩
    | goto _ => exact hp.elim
    | panic _ => exact hp.elim
    | outgrown => exact hp.elim
  · rintro e w3 ⟨v, rfl, _, hend⟩
    have hAd : Agree ⟨nn, mark D⟩ { a with defers := mark D ++ a.defers } st.m := ⟨hA.size, by simp [hA.defers], hA.at'⟩
    rcases hend with ⟨s, hs, S1, wr1, lo1, hM, hIn, hB⟩ | ⟨cx, S1, wr1, lo1, hM, hIn, hB⟩
    · obtain ⟨o, ho⟩ : ∃ o : Loop, o = { rec .ready none with state := .exhausted } := ⟨_, rfl⟩
      have hend : (Instr.endLoop (D + 1)).run P w3 = .ok none (w3.putObj (D + 1) (.loop o)) := by
        rw [run_endLoop hB.lp (by rw [hrec]; simp), ho, hrec]
      refine ⟨_, _, hend, ?_⟩
      have hI4 := hB.putI hIn hw0 (.loop o)
      have hB4 := hB.put (r' := o)
      exact hdone D s S1 wr1 lo1 _ hs hM hI4 ⟨hB4.dfr, hw0, hB4.nS.2, fun lb h => (hB4.nO lb h).2⟩ _ hAd
    · obtain ⟨o, ho⟩ : ∃ o : Loop, o = { rec .done (some cx) with state := .exhausted } := ⟨_, rfl⟩
      have hend : (Instr.endLoop (D + 1)).run P w3 = .ok (some cx) (w3.putObj (D + 1) (.loop o)) := by
        rw [run_endLoop hB.lp (by rw [hrec]; simp), ho, hrec]
      refine ⟨_, _, hend, ?_⟩
      have hI4 := hB.putI hIn hw0 (.loop o)
      have hB4 := hB.put (r' := o)
      exact (wpIn_wide (n := 0)).2 (hstop D cx S1 wr1 lo1 _ hM hI4 ⟨hB4.dfr, hw0, hB4.nS.2, fun lb h => (hB4.nO lb h).2⟩ _ hAd)

theorem at_KE {W : World} {e : Exit} {m : Mp} {l : List LB} (hI : Inv X S0 w0 S wr l W) (h : KE n e K (idsOf l) S W S wr ⟨m, l⟩) : ∀ a, Agree n a m → K e a W := fun a hA => h a W hA hI.rebase
theorem at_VC {W : World} {c : Code} {m : Mp} {l : List LB} (hI : Inv X S0 w0 S wr l W) (h : VC P n c K (idsOf l) S W S wr ⟨m, l⟩) : ∀ a, Agree n a m → c.wp P K a W := fun a hA => h a W hA hI.rebase

/-- A row of one's own is written no more from here on. -/
theorem at_freeze {pre tl l : List LB} {W : World} {e size D : Nat} {v : Sl} {xs : List Value} (hI : Inv X S0 w0 S wr l W) (hD : DefB D w0 S l W) (hl : l = pre ++ tl) (hrow : RowOK e size v xs tl) (hm : ∀ lb ∈ tl, ¬ X lb.id) :
    ∃ S1, Ext S wr S1 W ∧ Inv X S0 w0 S1 W pre W ∧ DefB D w0 S1 pre W ∧ (∀ {α : Type} (E : Enc α) (ys : List α), E.n = size → v.n = ys.length → Reads E S1 W xs ys → RSl E S1 W v ys) := by
  subst hl
  have hI2 := hI
  rw [← List.append_nil (pre ++ tl)] at hI2
  have hf := hI2.freezeRow hrow hm
  rw [List.append_nil] at hf
  refine ⟨_, ⟨fun b hb => .inl hb, hI.ref⟩, hf, ⟨hD.here, hD.new, fun h => ?_, fun lb h => hD.own lb (by simp [h])⟩, fun E ys he hn hr => ?_⟩
  · rcases h with h | ⟨lb, h1, h2⟩
    · exact hD.out h
    · exact hD.own lb (by simp [h1]) h2.symm
  · subst he
    exact hrow.rsl (fun lb hl => .inr ⟨lb, hl, rfl⟩) (fun lb hl => hI.own lb (by simp [hl])) hn hr

/-! ### A function that holds such a loop -/

/-- Where such a function ends. -/
def BPM (P : Program) (fn : Func) (R : Ending → World → Prop) : Exit → Act → World → Prop
  | .normal, a, w => LeavesInM Fence.wide 0 P fn a.tmps R a.defers .returning w
  | .ret, a, w => LeavesInM Fence.wide 0 P fn a.tmps R a.defers .returning w
  | _, _, _ => False

instance {P : Program} {fn : Func} {R : Ending → World → Prop} : Bottom (BPM P fn R) (BPM P fn R) := ⟨fun _ _ h => h, fun _ _ _ => rfl⟩
instance {P : Program} {fn : Func} {R : Ending → World → Prop} : PanicOK (BPM P fn R) := ⟨fun _ _ _ _ _ h => h⟩

theorem Calls_of_VCM {f : FuncId} {fn : Func} {c : Code} {args : List Value} {R : Value → List LB → (Nat → Prop) → World → Prop} {ls : List LB} (st : St)
    (hf : P.funcs[f]? = some fn) (hb : fn.body = some c) (hst : ((List.range args.length).zip args, ls) = (st.m, st.l)) (hn : Nat.ble args.length fn.ntmps = true) (hP : Pre S0 w0 ls)
    (h : VC P ⟨fn.ntmps, []⟩ c (BPM P fn (Ret S0 w0 ls R)) (idsOf ls) S0 w0 S0 w0 st) : Calls P f args.toArray w0 (Ret S0 w0 ls R) := by
  have hn' := Nat.le_of_ble_eq_true hn
  simp only [Prod.mk.injEq] at hst
  refine (callsIn_wide (n := 0)).1 (callsIn_of_wp_marks hf hb trivial (wpIn_mono (wpIn_wide.2 (h _ w0 ⟨by simp; omega, rfl, fun t v e => ?_⟩ ⟨?_, ?_, ?_, fun _ _ => rfl, hP.lt, Ext.refl _ _, fun _ h => .inl h, Keep.refl _ _, fun lb hl => .inr ⟨lb, hst.2 ▸ hl, rfl⟩⟩)) ?_))
  · rw [← hst.1] at e
    have key : ∀ (l : List Value) (k : Nat), look ((List.range' k l.length).zip l) t = some v → k ≤ t ∧ l[t - k]? = some v := by
      intro l
      induction l with
      | nil => intro k e; simp [look] at e
      | cons x r ih =>
        intro k e
        simp only [List.length_cons, List.range'_succ, List.zip_cons_cons, look_put] at e
        by_cases hk : k = t
        · subst hk
          rw [if_pos rfl] at e
          simp only [Option.some.injEq] at e
          subst e
          simp
        · rw [if_neg hk] at e
          obtain ⟨h1, h2⟩ := ih (k + 1) e
          refine ⟨by omega, ?_⟩
          rw [show t - k = (t - (k + 1)) + 1 from by omega, List.getElem?_cons_succ]
          exact h2
    rw [List.range_eq_range'] at e
    have := (key args 0 e).2
    rw [Nat.sub_zero] at this
    have hlt := (List.getElem?_eq_some_iff.1 this).1
    rw [Array.getElem?_append_left (by simpa using hlt)]
    simpa using this
  · rw [← hst.2]; exact hP.own
  · rw [← hst.2]; exact hP.nd
  · rw [← hst.2]; exact hP.sep
  · intro e a w he
    cases e <;> first | exact he | exact he.elim

/-- The end without the mark. -/
theorem KE_endM0 {fn : Func} {ls : List LB} {R : Value → List LB → (Nat → Prop) → World → Prop} (hT : TabOK P T) (is : List Nat) (k : Nat) (tl : Bool) (hs : List Nat) (vs : List Value) (xs : List Nat) (ls' : List LB)
    (hX : X = idsOf ls) (he : (evRes T st fn.results.toList hs).map (fun r => (r, keepT st.l is k tl)) = some ((vs, xs, xs), ls')) (hsi : okKeep is k = true)
    (h : ∀ wa, Ext S wr S wa → R (tupled vs) ls' S wa) : KE ⟨nn, []⟩ .normal (BPM P fn (Ret S0 w0 ls R)) X S0 w0 S wr st := by
  intro a wa hA hI
  obtain ⟨h1, v, h2, h3⟩ := KE_ret hT is k tl hs vs xs ls' hX he hsi h hA hI
  show LeavesInM Fence.wide 0 P fn a.tmps _ a.defers .returning wa
  rw [h1]
  exact ⟨v, h2, h3⟩

theorem VC_retM0 {fn : Func} {ls : List LB} {R : Value → List LB → (Nat → Prop) → World → Prop} [hB : Bottom K (BPM P fn (Ret S0 w0 ls R))] (hT : TabOK P T) (is : List Nat) (k : Nat) (tl : Bool) (hs : List Nat) (vs : List Value) (xs : List Nat) (ls' : List LB)
    (hX : X = idsOf ls) (he : (evRes T st fn.results.toList hs).map (fun r => (r, keepT st.l is k tl)) = some ((vs, xs, xs), ls')) (hsi : okKeep is k = true)
    (h : ∀ wa, Ext S wr S wa → R (tupled vs) ls' S wa) : VC P ⟨nn, []⟩ .ret K X S0 w0 S wr st :=
  fun a wa hA hI => wp_ret (hB.ret a wa (KE_endM0 (nn := nn) hT is k tl hs vs xs ls' hX he hsi h a wa hA hI))

/-- The end with the mark: the deferred calls' block is shut. -/
theorem KE_endM {fn : Func} {ls lo1 : List LB} {S1 : Nat → Prop} {wr1 W4 : World} {D : Nat} {R : Value → List LB → (Nat → Prop) → World → Prop} (hO : Inv (idsOf ls) S0 w0 S1 wr1 lo1 W4) (hD : DefB D w0 S1 lo1 W4)
    (hT : TabOK P T) (is : List Nat) (k : Nat) (tl : Bool) (hs : List Nat) (vs : List Value) (xs : List Nat) (ls' : List LB)
    (he : (evRes T st fn.results.toList hs).map (fun r => (r, keepT st.l is k tl)) = some ((vs, xs, xs), ls')) (hsi : okKeep is k = true)
    (h : ∀ wa, Ext S wr S wa → R (tupled vs) ls' S wa) : KE ⟨nn, mark D⟩ .normal (BPM P fn (Ret S0 w0 ls R)) (idsOf lo1) S1 W4 S wr st := by
  intro a wa hA hI
  have hDlt := heap_lt hD.here
  have hDa : wa.heap[D]? = some (.deferred (some [])) := by
    rw [hI.base.block D hDlt (fun ⟨lb, h1, h2⟩ => hD.own lb h1 h2.symm)]; exact hD.here
  have hI2 : Inv (idsOf ls) S0 w0 S wr st.l (wa.putObj D (.deferred none)) := by
    refine (hO.comp hI).but ButS.put (fun b hb e => ?_) (fun lb hl e => ?_) (fun b e => .inl (by have := hD.new; omega))
    · rcases hI.old b hb with h1 | h1
      · exact hD.out (e ▸ h1)
      · omega
    · rcases hI.mine lb hl with h1 | ⟨lc, h1, h2⟩
      · omega
      · exact hD.own lc h1 (h2.symm.trans e)
  obtain ⟨_, v, h2, h3⟩ := KE_ret hT is k tl hs vs xs ls' rfl he hsi h hA hI2
  show LeavesInM Fence.wide 0 P fn a.tmps _ a.defers .returning wa
  rw [hA.defers]
  exact ⟨by simp, .inl ⟨D, _, rfl, run_takeDeferred hDa, v, h2, h3⟩⟩

theorem VC_retM {fn : Func} {ls lo1 : List LB} {S1 : Nat → Prop} {wr1 W4 : World} {D : Nat} {R : Value → List LB → (Nat → Prop) → World → Prop} [hB : Bottom K (BPM P fn (Ret S0 w0 ls R))] (hO : Inv (idsOf ls) S0 w0 S1 wr1 lo1 W4) (hD : DefB D w0 S1 lo1 W4)
    (hT : TabOK P T) (is : List Nat) (k : Nat) (tl : Bool) (hs : List Nat) (vs : List Value) (xs : List Nat) (ls' : List LB)
    (he : (evRes T st fn.results.toList hs).map (fun r => (r, keepT st.l is k tl)) = some ((vs, xs, xs), ls')) (hsi : okKeep is k = true)
    (h : ∀ wa, Ext S wr S wa → R (tupled vs) ls' S wa) : VC P ⟨nn, mark D⟩ .ret K (idsOf lo1) S1 W4 S wr st :=
  fun a wa hA hI => wp_ret (hB.ret a wa (KE_endM (nn := nn) hO hD hT is k tl hs vs xs ls' he hsi h a wa hA hI))

end
end Eng
end Go.YtmfkmoecbnghhaaDoor
