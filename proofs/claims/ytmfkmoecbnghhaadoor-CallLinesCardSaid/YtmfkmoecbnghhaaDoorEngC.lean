/- Worlds: what is kept, what is one's own; a store into an own block; a new block. -/
import Derived.Test.YtmfkmoecbnghhaaDoorEngB
namespace Go.YtmfkmoecbnghhaaDoor
namespace Eng

structure Keep (X : Nat → Prop) (w w' : World) : Prop where
  os : w'.os = w.os
  tape : w'.tape = w.tape
  output : w'.output = w.output
  size : w.heap.size ≤ w'.heap.size
  block : ∀ k, k < w.heap.size → ¬ X k → w'.heap[k]? = w.heap[k]?

theorem Keep.refl (X : Nat → Prop) (w : World) : Keep X w w := ⟨rfl, rfl, rfl, Nat.le_refl _, fun _ _ _ => rfl⟩

structure Ext (S : Nat → Prop) (w : World) (S' : Nat → Prop) (w' : World) : Prop where
  sub : ∀ b, S b → S' b
  same : ∀ b, S b → w'.heap[b]? = w.heap[b]?

theorem Ext.refl (S : Nat → Prop) (w : World) : Ext S w S w := ⟨fun _ h => h, fun _ _ => rfl⟩
theorem Ext.trans {S S' S'' : Nat → Prop} {w w' w'' : World} (h : Ext S w S' w') (k : Ext S' w' S'' w'') : Ext S w S'' w'' :=
  ⟨fun b hb => k.sub b (h.sub b hb), fun b hb => (k.same b (h.sub b hb)).trans (h.same b hb)⟩

/-- The actual world wa against what is known: X: the blocks that came in to be written; S: the blocks that nobody writes any more, as in the world wr; l: one's own blocks. -/
structure Inv (X S0 : Nat → Prop) (w0 : World) (S : Nat → Prop) (wr : World) (l : List LB) (wa : World) : Prop where
  own : OwnL l wa
  nd : l.Pairwise (fun p q => p.id ≠ q.id)
  sep : ∀ lb ∈ l, ¬ S lb.id
  ref : ∀ b, S b → wa.heap[b]? = wr.heap[b]?
  lt : ∀ b, S b → b < wa.heap.size
  ext : Ext S0 w0 S wa
  old : ∀ b, S b → S0 b ∨ w0.heap.size ≤ b
  base : Keep X w0 wa
  mine : ∀ lb ∈ l, w0.heap.size ≤ lb.id ∨ X lb.id

theorem Inv.toExt {X S0 S : Nat → Prop} {w0 wr wa : World} {l : List LB} (h : Inv X S0 w0 S wr l wa) : Ext S wr S wa := ⟨fun _ h => h, h.ref⟩

theorem Inv.id_lt {X S0 S : Nat → Prop} {w0 wr wa : World} {l : List LB} (h : Inv X S0 w0 S wr l wa) {lb : LB} (hl : lb ∈ l) : lb.id < wa.heap.size := by
  have := h.own lb hl
  rcases Nat.lt_or_ge lb.id wa.heap.size with h1 | h1
  · exact h1
  · rw [Array.getElem?_eq_none h1] at this; cases this

theorem Inv.drew {X S0 S : Nat → Prop} {w0 wr wa : World} {l : List LB} (h : Inv X S0 w0 S wr l wa) : Inv X S0 w0 S wr l { wa with drawn := wa.drawn + 1 } :=
  ⟨h.own, h.nd, h.sep, h.ref, h.lt, ⟨h.ext.sub, h.ext.same⟩, h.old, ⟨h.base.os, h.base.tape, h.base.output, h.base.size, h.base.block⟩, h.mine⟩

/-- Fewer own blocks. -/
theorem Inv.fewer {X S0 S : Nat → Prop} {w0 wr wa : World} {l l' : List LB} (h : Inv X S0 w0 S wr l wa) (hs : l'.Sublist l) : Inv X S0 w0 S wr l' wa :=
  ⟨fun lb hl => h.own lb (hs.subset hl), h.nd.sublist hs, fun lb hl => h.sep lb (hs.subset hl), h.ref, h.lt, h.ext, h.old, h.base, fun lb hl => h.mine lb (hs.subset hl)⟩

/-! ### A store into one block -/

def isCell : Value → Bool
  | .agg _ | .tuple _ => false
  | _ => true

/-- w' is w but for the cells of block b. -/
structure Wrote (b : Nat) (ty : TypeId) (cs : List Value) (w w' : World) : Prop where
  os : w'.os = w.os
  tape : w'.tape = w.tape
  output : w'.output = w.output
  size : w'.heap.size = w.heap.size
  this : w'.heap[b]? = some (.cells cs.toArray ty (0, 0))
  other : ∀ k, k ≠ b → w'.heap[k]? = w.heap[k]?

theorem wrote_setCell {b o : Nat} {ty : TypeId} {cs : List Value} {v : Value} {w : World} (h : w.heap[b]? = some (.cells cs.toArray ty (0, 0))) :
    Wrote b ty (cs.set o v) w (w.setCell ⟨b, o, none⟩ v) := by
  refine ⟨rfl, rfl, rfl, by simp, ?_, fun k hk => ?_⟩
  · simp [World.setCell, Array.getElem?_modify, h]
  · simp only [World.setCell, Array.getElem?_modify]
    rw [if_neg (by omega)]

theorem Wrote.trans {b : Nat} {ty ty' : TypeId} {cs cs' : List Value} {w w' w'' : World} (h : Wrote b ty cs w w') (k : Wrote b ty' cs' w' w'') : Wrote b ty' cs' w w'' :=
  ⟨k.os.trans h.os, k.tape.trans h.tape, k.output.trans h.output, k.size.trans h.size, k.this, fun i hi => (k.other i hi).trans (h.other i hi)⟩

section
variable {P : Program} {T : Tab}

theorem run_store1 {b o : Nat} {ty : TypeId} {cs : List Value} {v : Value} {w : World} (h : w.heap[b]? = some (.cells cs.toArray ty (0, 0))) (ho : o < cs.length) (hv : isCell v = true) :
    (store ⟨b, o, none⟩ v).run P w = .ok () (w.setCell ⟨b, o, none⟩ v) := by
  have hc : w.cell? ⟨b, o, none⟩ = some cs[o] := by rw [cell_of h]; simp [ho]
  have hf : w.frozen? ⟨b, o, none⟩ = false := by simp [World.frozen?, h]
  unfold store
  cases v <;> simp [isCell] at hv <;> simp [Sem.run, hc, hf]

theorem setRange_cons {cs : List Value} {o : Nat} {v : Value} {r : List Value} (h : o + (r.length + 1) ≤ cs.length) :
    setRange (cs.set o v) (o + 1) r = setRange cs o (v :: r) := by
  simp only [setRange, List.length_cons]
  rw [List.take_set, List.drop_set_of_lt (by omega), List.take_add_one, List.getElem?_eq_getElem (by omega)]
  have h2 : (List.take o cs ++ (some cs[o]).toList).set o v = List.take o cs ++ [v] := by
    rw [List.set_append_right _ _ (by simp; omega)]
    simp [show min o cs.length = o from by omega]
  rw [h2]
  simp [Nat.add_comm, Nat.add_left_comm]

theorem run_storeCells {b o : Nat} {ty : TypeId} : ∀ (vs : List Value) (i : Nat) (cs : List Value) (w : World), w.heap[b]? = some (.cells cs.toArray ty (0, 0)) → o + i + vs.length ≤ cs.length →
    vs.all isCell = true → ∃ w', (storeCells ⟨b, o, none⟩ vs i).run P w = .ok () w' ∧ Wrote b ty (setRange cs (o + i) vs) w w' := by
  intro vs
  induction vs with
  | nil =>
    intro i cs w h _ _
    exact ⟨w, rfl, ⟨rfl, rfl, rfl, rfl, by simpa [setRange] using h, fun _ _ => rfl⟩⟩
  | cons v r ih =>
    intro i cs w h hl hv
    simp only [List.length_cons] at hl
    simp only [List.all_cons, Bool.and_eq_true] at hv
    have h1 := wrote_setCell (o := o + i) (v := v) h
    obtain ⟨w', hr, hw⟩ := ih (i + 1) (cs.set (o + i) v) _ h1.this (by simp; omega) hv.2
    refine ⟨w', ?_, ?_⟩
    · unfold storeCells
      rw [Sem.run_bind, addr_add, run_store1 h (by omega) hv.1]
      exact hr
    · rw [show o + (i + 1) = o + i + 1 from by omega, setRange_cons (by omega)] at hw
      exact h1.trans hw

theorem run_storeAt {b o : Nat} {t : TypeId} {ti : TI} {ty : TypeId} {cs : List Value} {v : Value} {w : World} (hT : TabOK P T) (ht : T.get t = some ti)
    (h : w.heap[b]? = some (.cells cs.toArray ty (0, 0))) (hs : (cellsL v).length = ti.size) (hl : o + (cellsL v).length ≤ cs.length) (hv : (cellsL v).all isCell = true) :
    ∃ w', (Instr.storeAt t (.pointer (some ⟨b, o, none⟩)) v).run P w = .ok () w' ∧ Wrote b ty (setRange cs o (cellsL v)) w w' := by
  obtain ⟨w', hr, hw⟩ := run_storeCells (P := P) (b := b) (o := o) (cellsL v) 0 cs w h (by omega) hv
  refine ⟨w', ?_, hw⟩
  unfold Instr.storeAt
  simp only [Instr.sureAddr, Sem.run_bind, Sem.run_pure, Result.andThen_ok, storeVar, run_size (w := w) hT ht]
  rw [if_neg (by rw [← hs, ← cellsL_eq]; simp)]
  rw [cellsL_eq]
  simpa using hr

end

theorem Inv.wrote {X S0 S : Nat → Prop} {w0 wr wa wb : World} {l : List LB} {h : Nat} {lb : LB} {cs : List Value} (hI : Inv X S0 w0 S wr l wa) (hh : l[h]? = some lb)
    (hw : Wrote lb.id lb.ty cs wa wb) : Inv X S0 w0 S wr (l.set h { lb with cells := cs }) wb := by
  have hmem : lb ∈ l := List.mem_of_getElem? hh
  have hlt : h < l.length := (List.getElem?_eq_some_iff.1 hh).1
  have hge : l[h] = lb := (List.getElem?_eq_some_iff.1 hh).2
  have hmap : (l.set h { lb with cells := cs }).map LB.id = l.map LB.id := by
    rw [List.map_set]
    apply List.ext_getElem (by simp)
    intro i h1 h2
    rw [List.getElem_set]
    by_cases e : h = i
    · subst e; simp [hge]
    · simp [e]
  have hnS : ∀ b, S b → b ≠ lb.id := fun b hb e => hI.sep lb hmem (e ▸ hb)
  refine ⟨fun lc hl => ?_, ?_, fun lc hl => ?_, fun b hb => ?_, fun b hb => ?_, ⟨hI.ext.sub, fun b hb => ?_⟩, hI.old, ⟨?_, ?_, ?_, ?_, fun k hk hx => ?_⟩, fun lc hl => ?_⟩
  · obtain ⟨i, hi, rfl⟩ := List.mem_iff_getElem.1 hl
    rw [List.getElem_set]
    by_cases e : h = i
    · rw [if_pos e]; exact hw.this
    · rw [if_neg e]
      rw [List.length_set] at hi
      have hne : l[i].id ≠ lb.id := by
        have := List.pairwise_iff_getElem.1 hI.nd
        rcases Nat.lt_or_ge h i with h1 | h1
        · have := this h i hlt hi h1; rw [hge] at this; exact fun e => this e.symm
        · have := this i h hi hlt (by omega); rw [hge] at this; exact this
      rw [hw.other _ hne]
      exact hI.own _ (List.getElem_mem hi)
  · have h1 : (l.map LB.id).Pairwise (· ≠ ·) := List.pairwise_map.2 hI.nd
    rw [← hmap] at h1
    exact List.pairwise_map.1 h1
  · have : lc.id ∈ l.map LB.id := by rw [← hmap]; exact List.mem_map_of_mem hl
    obtain ⟨lb', h1, h2⟩ := List.mem_map.1 this
    rw [← h2]; exact hI.sep lb' h1
  · rw [hw.other _ (hnS b hb)]; exact hI.ref b hb
  · rw [hw.size]; exact hI.lt b hb
  · rw [hw.other _ (hnS b (hI.ext.sub b hb))]; exact hI.ext.same b hb
  · exact hw.os.trans hI.base.os
  · exact hw.tape.trans hI.base.tape
  · exact hw.output.trans hI.base.output
  · rw [hw.size]; exact hI.base.size
  · have hne : k ≠ lb.id := fun e => by
      rcases hI.mine lb hmem with h1 | h1
      · omega
      · exact hx (e ▸ h1)
    rw [hw.other _ hne]; exact hI.base.block k hk hx
  · have : lc.id ∈ l.map LB.id := by rw [← hmap]; exact List.mem_map_of_mem hl
    obtain ⟨lb', h1, h2⟩ := List.mem_map.1 this
    rw [← h2]; exact hI.mine lb' h1

/-- A new block. -/
theorem Inv.alloc {X S0 S : Nat → Prop} {w0 wr wa : World} {l : List LB} (hI : Inv X S0 w0 S wr l wa) (cs : List Value) (ty : TypeId) :
    Inv X S0 w0 S wr (⟨wa.heap.size, ty, cs⟩ :: l) { wa with heap := wa.heap.push (.cells cs.toArray ty) } := by
  have hold : ∀ k, k < wa.heap.size → (wa.heap.push (.cells cs.toArray ty))[k]? = wa.heap[k]? := fun k hk => by
    rw [Array.getElem?_push, if_neg (by omega)]
  refine ⟨fun lc hl => ?_, ?_, fun lc hl => ?_, fun b hb => ?_, fun b hb => ?_, ⟨hI.ext.sub, fun b hb => ?_⟩, hI.old, ⟨hI.base.os, hI.base.tape, hI.base.output, ?_, fun k hk hx => ?_⟩, fun lc hl => ?_⟩
  · rcases List.mem_cons.1 hl with rfl | h1
    · simp
    · show (wa.heap.push _)[lc.id]? = _
      rw [hold _ (hI.id_lt h1)]; exact hI.own lc h1
  · refine List.pairwise_cons.2 ⟨fun q hq => ?_, hI.nd⟩
    have := hI.id_lt hq
    simp only; omega
  · rcases List.mem_cons.1 hl with rfl | h1
    · intro h; have := hI.lt _ h; simp at this
    · exact hI.sep lc h1
  · show (wa.heap.push _)[b]? = _
    rw [hold _ (hI.lt b hb)]; exact hI.ref b hb
  · show b < (wa.heap.push _).size
    have := hI.lt b hb
    simp; omega
  · show (wa.heap.push _)[b]? = _
    rw [hold _ (hI.lt b (hI.ext.sub b hb))]; exact hI.ext.same b hb
  · show _ ≤ (wa.heap.push _).size
    have := hI.base.size
    simp; omega
  · show (wa.heap.push _)[k]? = _
    have := hI.base.size
    rw [hold _ (by omega)]; exact hI.base.block k hk hx
  · rcases List.mem_cons.1 hl with rfl | h1
    · exact .inl hI.base.size
    · exact hI.mine lc h1

/-- An own block is written no more. -/
theorem Inv.freeze {X S0 S : Nat → Prop} {w0 wr wa : World} {l1 l2 : List LB} {lb : LB} (hI : Inv X S0 w0 S wr (l1 ++ lb :: l2) wa) (hm : ¬ X lb.id) :
    Inv X S0 w0 (fun b => S b ∨ b = lb.id) wa (l1 ++ l2) wa := by
  have hmem : lb ∈ l1 ++ lb :: l2 := by simp
  have hsub : (l1 ++ l2).Sublist (l1 ++ lb :: l2) := by simp
  refine ⟨fun lc hl => hI.own lc (hsub.subset hl), hI.nd.sublist hsub, fun lc hl => ?_, fun _ _ => rfl, fun b hb => ?_, ⟨fun b hb => .inl (hI.ext.sub b hb), hI.ext.same⟩, fun b hb => ?_, hI.base, fun lc hl => hI.mine lc (hsub.subset hl)⟩
  · rintro (h | h)
    · exact hI.sep lc (hsub.subset hl) h
    · have h1 := List.pairwise_append.1 hI.nd
      rcases List.mem_append.1 hl with h2 | h2
      · exact h1.2.2 lc h2 lb (by simp) h
      · exact (List.pairwise_cons.1 h1.2.1).1 lc h2 h.symm
  · rcases hb with hb | rfl
    · exact hI.lt b hb
    · exact hI.id_lt hmem
  · rcases hb with hb | rfl
    · exact hI.old b hb
    · rcases hI.mine lb hmem with h | h
      · exact .inr h
      · exact absurd h hm

end Eng
end Go.YtmfkmoecbnghhaaDoor
