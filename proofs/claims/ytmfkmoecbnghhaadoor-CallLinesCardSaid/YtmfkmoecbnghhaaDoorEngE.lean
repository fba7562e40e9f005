/- New blocks, calls, regions that draw their order, code, the return, loops. -/
import Derived.Test.YtmfkmoecbnghhaaDoorEngD
namespace Go.YtmfkmoecbnghhaaDoor
namespace Eng

/-! ### New blocks -/

def zerosL (ti : TI) (k : Nat) : List Value := (List.range k).map fun i => (cellsL ti.zero).getD (i % ti.size) undef

def newSlice (T : Tab) (t len : Nat) (vs : List (Nat × Value)) (b : Nat) : Option (Value × LB) :=
  match T.get t with
  | some ⟨_, _, .slice e⟩ => match T.get e with
    | some ti => bif Nat.ble (len * ti.size) 1000 && Nat.ble 1 ti.size && Nat.beq (cellsL ti.zero).length ti.size then
        match fillL (fun i => some (i * ti.size, ti.size)) (zerosL ti (len * ti.size)) vs with
        | some cs => some (.slice (some ⟨b, 0, none⟩) len len, ⟨b, e, cs⟩)
        | none => none
      else none
    | none => none
  | _ => none

def newV (T : Tab) (m : Mp) (o : Op) (b : Nat) : Option (Value × LB) :=
  match o with
  | .alloc t => match T.get t with
    | some ti => some (.pointer (some ⟨b, 0, none⟩), ⟨b, t, cellsL ti.zero⟩)
    | none => none
  | .box t x => match ev m x with
    | some v => some (.pointer (some ⟨b, 0, none⟩), ⟨b, t, cellsL v⟩)
    | none => none
  | .buildSlice t len ps => match evParts m ps.toList with
    | some vs => newSlice T t len vs b
    | none => none
  | _ => none

def newAt (T : Tab) (n : Nat) (ops : Array Oper) (i : Nat) (ks : List Nat) (st : St) (b : Nat) : Option St :=
  match ops[i]? with
  | none => none
  | some o => bif okDst n o.dst then
    match wantedV ops st.m o with
    | some true => match newV T st.m o.op b with
      | some (v, lb) => some ⟨only ks (put st.m o.dst v), lb :: st.l⟩
      | none => none
    | _ => none
    else none

section
variable {P : Program} {T : Tab} {n : NN} {ops : Array Oper} {Q : Exit → Act → World → Prop} {X S0 : Nat → Prop} {w0 : World}

theorem run_newRow {w : World} (e : TypeId) (cs : Array Value) : (newRow e cs).run P w = .ok ⟨w.heap.size, 0, none⟩ { w with heap := w.heap.push (.cells cs e) } := rfl

theorem newV_sound (hT : TabOK P T) {m : Mp} {a : Act} {o : Oper} {v : Value} {lb : LB} {w : World} (hA : Agree n a m) (h : newV T m o.op w.heap.size = some (v, lb)) :
    lb.id = w.heap.size ∧ (execOp a.eval o).run P w = .ok (.value v) { w with heap := w.heap.push (.cells lb.cells.toArray lb.ty) } := by
  obtain ⟨dst, op, type, pos, after, guard⟩ := o
  simp only at h
  cases op <;> simp only [newV] at h <;> try cases h
  case alloc t =>
    split at h
    · rename_i ti ht
      simp only [Option.some.injEq, Prod.mk.injEq] at h
      obtain ⟨rfl, rfl⟩ := h
      refine ⟨rfl, ?_⟩
      have hz : ti.zero.cells = (cellsL ti.zero).toArray := by rw [← cellsL_eq]
      simp only [execOp, Instr.alloc, Sem.run_bind, run_zero (w := w) hT ht, Result.andThen_ok, newVar, run_newRow, Sem.run_pure, hz]
    · cases h
  case box t x =>
    split at h
    · rename_i u hu
      simp only [Option.some.injEq, Prod.mk.injEq] at h
      obtain ⟨rfl, rfl⟩ := h
      refine ⟨rfl, ?_⟩
      have hz : u.cells = (cellsL u).toArray := by rw [← cellsL_eq]
      simp only [execOp, ev_eval hA hu, Instr.box, Sem.run_bind, Result.andThen_ok, newVar, run_newRow, Sem.run_pure, hz]
    · cases h
  case buildSlice t len ps =>
    split at h
    · rename_i vs hvs
      unfold newSlice at h
      split at h
      · rename_i sz z e ht
        split at h
        · rename_i ti he
          by_cases hc : (Nat.ble (len * ti.size) 1000 && Nat.ble 1 ti.size && Nat.beq (cellsL ti.zero).length ti.size) = true
          · rw [hc] at h
            simp only [cond_true] at h
            simp only [Bool.and_eq_true] at hc
            have h1 := Nat.le_of_ble_eq_true hc.1.1
            have h2 := Nat.le_of_ble_eq_true hc.1.2
            have h3 := Nat.eq_of_beq_eq_true hc.2
            split at h
            · rename_i cs hf
              simp only [Option.some.injEq, Prod.mk.injEq] at h
              obtain ⟨rfl, rfl⟩ := h
              refine ⟨rfl, ?_⟩
              have e1 : (ps.map fun p => (p.1, a.eval p.2)) = vs.toArray := by apply Array.ext'; simpa using evParts_map hA hvs
              have hz : ti.zero.cells = (cellsL ti.zero).toArray := by rw [← cellsL_eq]
              have hfe := fill_eq _ _ _ _ hf
              simp only [execOp, e1, Instr.buildSlice, Sem.run_bind, run_und (w := w) hT ht, Result.andThen_ok, run_size (w := w) hT he]
              rw [if_neg (by omega)]
              by_cases hl : len * ti.size = 0
              · have hcells : (Array.range (len * ti.size)).map (fun x => (#[] : Array Value)[x % (#[] : Array Value).size]!) = (zerosL ti (len * ti.size)).toArray := by
                  rw [hl]; simp [zerosL]
                rw [if_pos hl]
                simp only [Sem.run_bind, Sem.run_pure, Result.andThen_ok]
                rw [hcells, hfe]
                simp only [Sem.run_bind, run_newRow, Result.andThen_ok, Sem.run_pure]
              · have hcells : (Array.range (len * ti.size)).map (fun x => ti.zero.cells[x % ti.zero.cells.size]!) = (zerosL ti (len * ti.size)).toArray := by
                  apply Array.ext'
                  rw [hz]
                  simp only [zerosL, Array.toList_map, Array.toList_range, List.size_toArray]
                  refine List.map_congr_left fun i _ => ?_
                  rw [h3]
                  have hlt : i % ti.size < (cellsL ti.zero).length := by rw [h3]; exact Nat.mod_lt _ (by omega)
                  simp [hlt]
                rw [if_neg hl]
                simp only [Sem.run_bind, run_zero (w := w) hT he, Sem.run_pure, Result.andThen_ok]
                rw [hcells, hfe]
                simp only [Sem.run_bind, run_newRow, Result.andThen_ok, Sem.run_pure]
            · cases h
          · rw [Bool.not_eq_true] at hc
            rw [hc] at h; cases h
        · cases h
      · cases h
    · cases h

theorem Does_new (hT : TabOK P T) {i : Nat} {S : Nat → Prop} {wr : World} {st : St} (ks : List Nat) (st' : Nat → St) (he : ∀ b, newAt T n ops i ks st b = some (st' b)) :
    Does P n ops Q X S0 w0 i S wr st fun S' wr' st1 => S' = S ∧ wr' = wr ∧ ∃ b, st1 = st' b := by
  intro a wa K hA hI hK
  have h := he wa.heap.size
  unfold newAt at h
  cases hi : ops[i]? with
  | none => rw [hi] at h; cases h
  | some o =>
    rw [hi] at h
    simp only at h
    by_cases hd : okDst n o.dst = true
    · rw [hd] at h
      simp only [cond_true] at h
      split at h
      · rename_i hw
        split at h
        · rename_i v lb hnv
          simp only [Option.some.injEq] at h
          obtain ⟨h1, h2⟩ := newV_sound (w := wa) hT hA hnv
          unfold wpOp
          rw [hi]
          simp only
          rw [wantedV_spec hA hw]
          simp only [if_true]
          refine .inl ?_
          unfold Oper.wp
          rw [h2]
          simp only [Oper.upon]
          refine hK S wr (st' wa.heap.size) ⟨rfl, rfl, _, rfl⟩ _ _ ?_ ?_
          · rw [← h]; exact (hA.put (okDst_spec hd)).only ks
          · rw [← h]
            have := hI.alloc lb.cells lb.ty
            rw [← h1] at this
            exact this
        · cases h
      · cases h
    · rw [Bool.not_eq_true] at hd
      rw [hd] at h; cases h

theorem RV_new (hT : TabOK P T) {c k : Nat} {S : Nat → Prop} {wr : World} {st : St} (ks : List Nat) (st' : Nat → St) (he : ∀ b, newAt T n ops k ks st b = some (st' b))
    (h : ∀ b, RV P n ops Q X S0 w0 c (k + 1) S wr (st' b)) : RV P n ops Q X S0 w0 (c + 1) k S wr st :=
  RV_does (Does_new hT ks st' he) fun S' wr' st1 ⟨h1, h2, b, h3⟩ => by subst h1 h2 h3; exact h b

/-! ### Calls -/

def Enters (P : Program) (f : FuncId) : Prop := ((P.funcs[f]?).map fun fn => (fn.name == "runtime.NumGoroutine", fn.body.isNone)) = some (false, false)

def callV (m : Mp) (o : Op) : Option (FuncId × List Value) :=
  match o with
  | .call ⟨.value x, xs, _⟩ => match ev m x, evAll m xs.toList with
    | some (.func (.func f) u c), some vs => some (f, u.toList ++ vs ++ c.toList)
    | _, _ => none
  | _ => none

def callAt (n : Nat) (ops : Array Oper) (i : Nat) (st : St) : Option (FuncId × List Value × Option Nat) :=
  match ops[i]? with
  | none => none
  | some o => bif okDst n o.dst then
    match wantedV ops st.m o with
    | some true => match callV st.m o.op with
      | some (f, vs) => some (f, vs, o.dst)
      | none => none
    | _ => none
    else none

theorem callV_sound {m : Mp} {a : Act} {o : Oper} {f : FuncId} {vs : List Value} {w : World} (hA : Agree n a m) (h : callV m o.op = some (f, vs)) (hE : Enters P f) :
    (execOp a.eval o).run P w = .ok (.enter f vs.toArray) w := by
  obtain ⟨dst, op, type, pos, after, guard⟩ := o
  simp only at h
  cases op <;> simp only [callV] at h <;> try cases h
  rename_i c
  obtain ⟨callee, args, tys⟩ := c
  cases callee <;> simp only [reduceCtorEq] at h
  rename_i x
  split at h
  · rename_i g u c us hx hxs
    simp only [Option.some.injEq, Prod.mk.injEq] at h
    obtain ⟨rfl, rfl⟩ := h
    have e1 : args.map a.eval = us.toArray := by apply Array.ext'; simpa using evAll_map hA hxs
    have e2 : u ++ us.toArray ++ c = (u.toList ++ us ++ c.toList).toArray := by apply Array.ext'; simp
    simp only [execOp, resolve, e1, ev_eval hA hx, Deferred.ofValue, Sem.run_bind, Sem.run_pure, Result.andThen_ok, invoke, callFunc, run_program]
    unfold Enters at hE
    cases hf : P.funcs[g]? with
    | none => rw [hf] at hE; cases hE
    | some fn =>
      rw [hf] at hE
      simp only [Option.map_some, Option.some.injEq, Prod.mk.injEq] at hE
      simp only [hE.1, hE.2, Bool.false_eq_true, if_false, Sem.run_pure, e2]
  · cases h

def idsOf (ls : List LB) (k : Nat) : Prop := ∃ lb ∈ ls, k = lb.id

/-- What a function comes to: it returns v; of what there was it has written the blocks of ls alone; ls' are the caller's own then. -/
def Ret (S0 : Nat → Prop) (w0 : World) (ls : List LB) (R : Value → List LB → (Nat → Prop) → World → Prop) (e : Ending) (w' : World) : Prop :=
  ∃ v S' ls', e = .returned v ∧ Keep (idsOf ls) w0 w' ∧ Ext S0 w0 S' w' ∧ (∀ b, S' b → S0 b ∨ w0.heap.size ≤ b) ∧ (∀ b, S' b → b < w'.heap.size) ∧
    (ls'.Pairwise (fun p q => p.id ≠ q.id) ∧ (∀ lb ∈ ls', idsOf ls lb.id ∨ w0.heap.size ≤ lb.id) ∧ ∀ lb ∈ ls', ¬ S' lb.id) ∧ OwnL ls' w' ∧ R v ls' S' w'

/-- What a function is called with: nothing that is written is among what nobody writes; the blocks ls are as told. -/
structure Pre (S : Nat → Prop) (w : World) (ls : List LB) : Prop where
  lt : ∀ b, S b → b < w.heap.size
  own : OwnL ls w
  nd : ls.Pairwise (fun p q => p.id ≠ q.id)
  sep : ∀ lb ∈ ls, ¬ S lb.id

theorem Does_call {i : Nat} {S : Nat → Prop} {wr : World} {st : St} (ls rest : List LB) {f : FuncId} {vs : List Value} {dst : Option Nat} {R : Value → List LB → (Nat → Prop) → World → Prop}
    (he : callAt n ops i st = some (f, vs, dst)) (hE : Enters P f) (hl : st.l = ls ++ rest)
    (hC : ∀ wa, Ext S wr S wa → Pre S wa ls → Calls P f vs.toArray wa (Ret S wa ls R)) :
    Does P n ops Q X S0 w0 i S wr st fun S' wr' st1 => ∃ v ls', Ext S wr S' wr' ∧ R v ls' S' wr' ∧ st1 = ⟨put st.m dst v, ls' ++ rest⟩ := by
  intro a wa K hA hI hK
  unfold callAt at he
  cases hi : ops[i]? with
  | none => rw [hi] at he; cases he
  | some o =>
    rw [hi] at he
    simp only at he
    by_cases hd : okDst n o.dst = true
    · rw [hd] at he
      simp only [cond_true] at he
      split at he
      · rename_i hw
        split at he
        · rename_i g us hcv
          simp only [Option.some.injEq, Prod.mk.injEq] at he
          obtain ⟨rfl, rfl, rfl⟩ := he
          unfold wpOp
          rw [hi]
          simp only
          rw [wantedV_spec hA hw]
          simp only [if_true]
          refine .inl ?_
          unfold Oper.wp
          rw [callV_sound hA hcv hE]
          simp only [Oper.upon]
          have hI' := hI
          rw [hl] at hI'
          have hnd := List.pairwise_append.1 hI'.nd
          refine (hC wa hI.toExt ⟨hI.lt, fun lb h => hI'.own lb (by simp [h]), hnd.1, fun lb h => hI'.sep lb (by simp [h])⟩).mono fun e w' hR => ?_
          obtain ⟨v, S', ls', rfl, hkeep, hext, hold, hlt, ⟨hnd', hids, hsep'⟩, hown, hR⟩ := hR
          refine hK S' w' ⟨put st.m o.dst v, ls' ++ rest⟩ ⟨v, ls', (hI.toExt).trans hext, hR, rfl⟩ _ _ (hA.put (okDst_spec hd)) ?_
          have hnotX : ∀ lb ∈ rest, ¬ idsOf ls lb.id := fun lb h ⟨lc, h1, h2⟩ => hnd.2.2 lc h1 lb h h2.symm
          have hidlt : ∀ lb ∈ ls ++ rest, lb.id < wa.heap.size := fun lb h => hI'.id_lt h
          refine ⟨fun lb h => ?_, ?_, fun lb h => ?_, fun _ _ => rfl, hlt, ⟨fun b hb => hext.sub b (hI.ext.sub b hb), fun b hb => ?_⟩, fun b hb => ?_, ⟨?_, ?_, ?_, ?_, fun k hk hx => ?_⟩, fun lb h => ?_⟩
          · rcases List.mem_append.1 h with h | h
            · exact hown lb h
            · rw [hkeep.block _ (hidlt lb (by simp [h])) (hnotX lb h)]; exact hI'.own lb (by simp [h])
          · refine List.pairwise_append.2 ⟨hnd', hnd.2.1, fun p hp q hq e => ?_⟩
            have h3 := hidlt q (by simp [hq])
            rcases hids p hp with ⟨lc, h1, h2⟩ | h1
            · exact hnd.2.2 lc h1 q hq (h2.symm.trans e)
            · omega
          · intro hS
            rcases List.mem_append.1 h with h | h
            · exact hsep' lb h hS
            · rcases hold _ hS with h3 | h3
              · exact hI'.sep lb (by simp [h]) h3
              · have := hidlt lb (by simp [h]); omega
          · rw [hext.same b (hI.ext.sub b hb)]; exact hI.ext.same b hb
          · rcases hold b hb with h | h
            · exact hI.old b h
            · have := hI.base.size; exact .inr (by omega)
          · exact hkeep.os.trans hI.base.os
          · exact hkeep.tape.trans hI.base.tape
          · exact hkeep.output.trans hI.base.output
          · exact Nat.le_trans hI.base.size hkeep.size
          · have hkw : k < wa.heap.size := Nat.lt_of_lt_of_le hk hI.base.size
            have hnl : ¬ idsOf ls k := fun ⟨lc, h1, h2⟩ => by
              rcases hI'.mine lc (by simp [h1]) with h3 | h3
              · omega
              · exact hx (h2 ▸ h3)
            rw [hkeep.block k hkw hnl]; exact hI.base.block k hk hx
          · rcases List.mem_append.1 h with h | h
            · rcases hids lb h with ⟨lc, h1, h2⟩ | h1
              · rw [h2]; exact hI'.mine lc (by simp [h1])
              · have := hI.base.size; exact .inl (by omega)
            · exact hI'.mine lb (by simp [h])
        · cases he
      · cases he
    · rw [Bool.not_eq_true] at hd
      rw [hd] at he; cases he

theorem RV_callM {c k : Nat} {S : Nat → Prop} {wr : World} {st : St} (ls rest : List LB) {f : FuncId} {vs : List Value} {dst : Option Nat} {R : Value → List LB → (Nat → Prop) → World → Prop}
    (he : callAt n ops k st = some (f, vs, dst)) (hE : Enters P f) (hl : st.l = ls ++ rest)
    (hC : ∀ wa, Ext S wr S wa → Pre S wa ls → Calls P f vs.toArray wa (Ret S wa ls R))
    (h : ∀ S' wr' v ls', Ext S wr S' wr' → R v ls' S' wr' → RV P n ops Q X S0 w0 c (k + 1) S' wr' ⟨put st.m dst v, ls' ++ rest⟩) :
    RV P n ops Q X S0 w0 (c + 1) k S wr st :=
  RV_does (Does_call ls rest he hE hl hC) fun S' wr' st1 ⟨v, ls', h1, h3, h4⟩ => by subst h4; exact h S' wr' v ls' h1 h3

theorem RV_call {c k : Nat} {S : Nat → Prop} {wr : World} {st : St} {f : FuncId} {vs : List Value} {dst : Option Nat} {R : Value → List LB → (Nat → Prop) → World → Prop}
    (he : callAt n ops k st = some (f, vs, dst)) (hE : Enters P f)
    (hC : ∀ wa, Ext S wr S wa → Pre S wa [] → Calls P f vs.toArray wa (Ret S wa [] R))
    (h : ∀ S' wr' v ls', Ext S wr S' wr' → R v ls' S' wr' → RV P n ops Q X S0 w0 c (k + 1) S' wr' ⟨put st.m dst v, st.l⟩) :
    RV P n ops Q X S0 w0 (c + 1) k S wr st :=
  RV_callM [] st.l he hE rfl hC fun S' wr' v ls' h1 h3 a wa hA hI =>
    h S' wr' v ls' h1 h3 a wa hA (hI.fewer (List.sublist_append_right ls' st.l))

end
end Eng
end Go.YtmfkmoecbnghhaaDoor
