/- A string that is seen in a row of one's own bytes. -/
import Derived.Test.YtmfkmoecbnghhaaDoorEngN
import Derived.Lib.UnsafeStr
namespace Go.YtmfkmoecbnghhaaDoor
namespace Eng

def sdV (m : Mp) (o : Op) : Option (Value × List Nat × List Nat) :=
  match o with
  | .call ⟨.builtin .unsafeSliceData, xs, _⟩ => match xs.toList with
    | [x] => match ev m x with
      | some (.slice none _ _) => some (.pointer none, [], [])
      | some (.slice (some a) _ (_ + 1)) => some (.pointer (some a), [], [])
      | _ => none
    | _ => none
  | _ => none

def usV (m : Mp) (o : Op) : Option (Value × List Nat × List Nat) :=
  match o with
  | .call ⟨.builtin .unsafeString, xs, ts⟩ => match xs.toList, ts.toList with
    | [x, y], [_, _] => match ev m x, ev m y with
      | some (.pointer none), some (.int .i64 0) => some (.string (B []), [], [])
      | _, _ => none
    | _, _ => none
  | _ => none

def usAt (n : Nat) (ops : Array Oper) (i : Nat) (m : Mp) : Option (Nat × Nat × Int × Option Nat) :=
  match ops[i]? with
  | none => none
  | some o => bif okDst n o.dst then
    match wantedV ops m o, o.op with
    | some true, .call ⟨.builtin .unsafeString, xs, ts⟩ => match xs.toList, ts.toList with
      | [x, y], [pt, _] => match ev m x, ev m y with
        | some (.pointer (some ⟨g, 0, none⟩)), some (.int .i64 k) => some (pt, g, k, o.dst)
        | _, _ => none
      | _, _ => none
    | _, _ => none
    else none

section
variable {P : Program} {T : Tab} {n : NN} {ops : Array Oper} {Q : Exit → Act → World → Prop} {X S0 : Nat → Prop} {w0 : World} {S : Nat → Prop} {wr : World} {st : St} {K : Exit → Act → World → Prop}

theorem run_sd {o : Oper} {v : Value} {xs : List Nat} {a : Act} {wa : World} {m : Mp} (h : sdV m o.op = some (v, xs, xs)) (hA : Agree n a m) : (execOp a.eval o).run P wa = .ok (.value v) wa := by
  obtain ⟨dst, op, type, pos, after, guard⟩ := o
  simp only at h
  unfold sdV at h
  split at h
  · rename_i ys ts
    split at h
    · rename_i x hx
      have e1 : ys = #[x] := Array.ext' (by simpa using hx)
      subst e1
      split at h
      · rename_i k c hv
        simp only [Option.some.injEq, Prod.mk.injEq] at h
        obtain ⟨rfl, _⟩ := h
        simp only [execOp, resolve, invoke, builtin, Sem.run_bind, Sem.run_pure, Result.andThen_ok, List.map_toArray, List.map_cons, List.map_nil, ev_eval hA hv, Lib.run_unsafeSliceData_nil]
      · rename_i ad k c hv
        simp only [Option.some.injEq, Prod.mk.injEq] at h
        obtain ⟨rfl, _⟩ := h
        simp only [execOp, resolve, invoke, builtin, Sem.run_bind, Sem.run_pure, Result.andThen_ok, List.map_toArray, List.map_cons, List.map_nil, ev_eval hA hv, Lib.run_unsafeSliceData_row wa _ _ ad k (c + 1) (by omega)]
      · cases h
    · cases h
  · cases h

theorem run_us {o : Oper} {v : Value} {xs : List Nat} {a : Act} {wa : World} {m : Mp} (h : usV m o.op = some (v, xs, xs)) (hA : Agree n a m) : (execOp a.eval o).run P wa = .ok (.value v) wa := by
  obtain ⟨dst, op, type, pos, after, guard⟩ := o
  simp only at h
  unfold usV at h
  split at h
  · rename_i ys ts
    split at h
    · rename_i x y t1 t2 hx ht
      have e1 : ys = #[x, y] := Array.ext' (by simpa using hx)
      have e2 : ts = #[t1, t2] := Array.ext' (by simpa using ht)
      subst e1 e2
      split at h
      · rename_i hv hw
        simp only [Option.some.injEq, Prod.mk.injEq] at h
        obtain ⟨rfl, _⟩ := h
        have he : (B [] : ByteArray) = .empty := rfl
        simp only [execOp, resolve, invoke, builtin, Sem.run_bind, Sem.run_pure, Result.andThen_ok, List.map_toArray, List.map_cons, List.map_nil, ev_eval hA hv, ev_eval hA hw, Lib.run_unsafeString_none, he]
      · cases h
    · cases h
  · cases h

theorem Inv.dropped {pre : List LB} {lb : LB} {wa wb : World} (hI : Inv X S0 w0 S wr (pre ++ [lb]) wa) (hos : wb.os = wa.os) (ht : wb.tape = wa.tape) (ho : wb.output = wa.output) (hs : wb.heap.size = wa.heap.size) (hk : ∀ k, k ≠ lb.id → wb.heap[k]? = wa.heap[k]?) : Inv X S0 w0 S wr pre wb := by
  have hp := List.pairwise_append.1 hI.nd
  have hne : ∀ lc ∈ pre, lc.id ≠ lb.id := fun lc hl => hp.2.2 lc hl lb (by simp)
  have hnS : ∀ b, S b → b ≠ lb.id := fun b hb e => hI.sep lb (by simp) (e ▸ hb)
  refine ⟨fun lc hl => ?_, hp.1, fun lc hl => hI.sep lc (by simp [hl]), fun b hb => ?_, fun b hb => ?_, ⟨hI.ext.sub, fun b hb => ?_⟩, hI.old, ⟨hos.trans hI.base.os, ht.trans hI.base.tape, ho.trans hI.base.output, ?_, fun k h1 h2 => ?_⟩, fun lc hl => hI.mine lc (by simp [hl])⟩
  · rw [hk _ (hne lc hl)]; exact hI.own lc (by simp [hl])
  · rw [hk _ (hnS b hb)]; exact hI.ref b hb
  · rw [hs]; exact hI.lt b hb
  · rw [hk _ (hnS b (hI.ext.sub b hb))]; exact hI.ext.same b hb
  · rw [hs]; exact hI.base.size
  · have hne2 : k ≠ lb.id := fun e => by
      rcases hI.mine lb (by simp) with h3 | h3
      · omega
      · exact h2 (e ▸ h3)
    rw [hk _ hne2]; exact hI.base.block k h1 h2

theorem Does_us {i pt g e u : Nat} {k : Int} {dst : Option Nat} {l : List UInt8} {rest : List Value} (pre : List LB) (he : usAt n ops i st.m = some (pt, g, k, dst)) (hl : st.l = pre ++ [⟨g, e, byteCells l ++ rest⟩])
    (hp : P.underlying pt = some (.pointer u)) (hc : P.cellsOf u = 1) (heu : e = u) (hk : k = (l.length : Int)) (h0 : l ≠ []) (h63 : l.length ≤ 9223372036854775807) :
    Does P n ops Q X S0 w0 i S wr st fun S' wr' st1 => S' = S ∧ wr' = wr ∧ st1 = ⟨put st.m dst (.string (B l)), pre⟩ := by
  subst heu hk
  intro a wa K hA hI hK
  rw [hl] at hI
  unfold usAt at he
  cases hi : ops[i]? with
  | none => rw [hi] at he; cases he
  | some o =>
    rw [hi] at he
    simp only at he
    by_cases hdst : okDst n o.dst = true
    · rw [hdst] at he
      simp only [cond_true] at he
      obtain ⟨dst', op, type, pos, after, guard⟩ := o
      split at he
      · rename_i ax ats hw hop
        simp only at hop
        subst hop
        split at he
        · rename_i x y t1 t2 hxs hts
          split at he
          · rename_i g1 k1 hx hy
            simp only [Option.some.injEq, Prod.mk.injEq] at he
            obtain ⟨rfl, rfl, rfl, rfl⟩ := he
            have hg := hI.own ⟨g1, e, byteCells l ++ rest⟩ (by simp)
            simp only at hg
            have hsh : wa.shape? g1 = some (e, (byteCells l ++ rest).toArray.size) := by simp [World.shape?, hg]
            have hr := Lib.run_unsafeString_row (P := P) wa t1 t2 type e hp hc g1 _ hsh l h0 (by simp [byteCells_len]) h63 (fun j x hj => by
              rw [addr_add, cell_of hg]
              have := (List.getElem?_eq_some_iff.1 hj).1
              simp only [List.getElem?_toArray, Nat.zero_add]
              rw [List.getElem?_append_left (by rw [byteCells_len]; exact this)]
              simp [byteCells, hj])
            unfold wpOp
            rw [hi]
            simp only
            rw [wantedV_spec hA hw]
            simp only [if_true]
            refine .inl ?_
            have e1 : ax = #[x, y] := Array.ext' (by simpa using hxs)
            have e2 : ats = #[t1, t2] := Array.ext' (by simpa using hts)
            subst e1 e2
            unfold Oper.wp
            simp only [execOp, resolve, invoke, builtin, Sem.run_bind, Sem.run_pure, Result.andThen_ok, List.map_toArray, List.map_cons, List.map_nil, ev_eval hA hx, ev_eval hA hy, hr, Oper.upon]
            refine hK S wr _ ⟨rfl, rfl, rfl⟩ _ _ (hA.put (okDst_spec hdst)) ?_
            have hne : l.length ≠ 0 := fun h => h0 (List.eq_nil_of_length_eq_zero h)
            refine hI.dropped ?_ ?_ ?_ ?_ (fun k hk => ?_) <;> unfold World.freeze <;> rw [if_neg hne]
            · simp
            · simp only [Array.getElem?_modify]
              rw [if_neg (fun h => hk h.symm)]
          · cases he
        · cases he
      · cases he
    · rw [Bool.not_eq_true] at hdst
      rw [hdst] at he; cases he

theorem RVd_us {lw : List LB} {Sr : Nat → Prop} {wrr : World} {fuel : Nat} {L : Array Bool} (i : Nat) (iw : List Nat) (L' : Array Bool) {pt g e u : Nat} {k : Int} {dst : Option Nat} {l : List UInt8} {rest : List Value} (pre : List LB) (hr : Region.ready .any ops L = [i]) (hL : L.setIfInBounds i true = L')
    (he : usAt n ops i st.m = some (pt, g, k, dst)) (hl : st.l = pre ++ [⟨g, e, byteCells l ++ rest⟩])
    (hp : P.underlying pt = some (.pointer u)) (hc : P.cellsOf u = 1) (heu : e = u) (hk : k = (l.length : Int)) (h0 : l ≠ []) (h63 : l.length ≤ 9223372036854775807) (hw : pickL pre iw = lw)
    (h : RVd P n ops Q X S0 w0 lw Sr wrr fuel L' S wr ⟨put st.m dst (.string (B l)), pre⟩) : RVd P n ops Q X S0 w0 lw Sr wrr (fuel + 1) L S wr st :=
  RVd_one i hr hL (Does_us pre he hl hp hc heu hk h0 h63) fun S' wr' st1 ⟨h1, h2, h3⟩ => by subst h1 h2 h3; exact ⟨Ext.refl _ _, mem_of_pick hw, h⟩

end
end Eng
end Go.YtmfkmoecbnghhaaDoor
