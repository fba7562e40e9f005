/- A string's bytes appended to a row of one's own. -/
import Derived.Test.YtmfkmoecbnghhaaDoorEngM
import Derived.Lib.AppendStr
namespace Go.YtmfkmoecbnghhaaDoor
namespace Eng

def byteCells (l : List UInt8) : List Value := l.map fun b => Value.int .u8 (b.toNat : Int)

theorem byteCells_app (a b : List UInt8) : byteCells (a ++ b) = byteCells a ++ byteCells b := by simp [byteCells]
theorem byteCells_len (a : List UInt8) : (byteCells a).length = a.length := by simp [byteCells]

def apsAt (T : Tab) (n : Nat) (ops : Array Oper) (i : Nat) (m : Mp) : Option (Nat × Nat × Nat × Sl × ByteArray × Option Nat) :=
  match ops[i]? with
  | none => none
  | some o => bif okDst n o.dst then
    match wantedV ops m o, o.op with
    | some true, .call ⟨.builtin .append, xs, ts⟩ => match xs.toList, ts.toList with
      | [s, x], [t, t'] => match ev m s, ev m x, T.get t, T.get t' with
        | some (.slice a k c), some (.string z), some ⟨_, _, .slice e⟩, some ⟨_, _, .string⟩ => match T.get e with
          | some ⟨1, .int .u8 0, _⟩ => some (t, t', e, ⟨a, k, c⟩, z, o.dst)
          | _ => none
        | _, _, _, _ => none
      | _, _ => none
    | _, _ => none
    else none

section
variable {P : Program} {T : Tab} {n : NN} {ops : Array Oper} {Q : Exit → Act → World → Prop} {X S0 : Nat → Prop} {w0 : World} {S : Nat → Prop} {wr : World} {st : St} {K : Exit → Act → World → Prop}

theorem run_append_rowS (hT : TabOK P T) {t u e : Nat} {sz su : Nat} {z zu : Value} {d : TypeDesc} {ty : TypeId} {wa : World} {v : Sl} {xs : List Value} {l : List UInt8} {pre tl post : List LB} (ht : T.get t = some ⟨sz, z, .slice e⟩) (htu : T.get u = some ⟨su, zu, .string⟩)
    (hti : T.get e = some ⟨1, .int .u8 0, d⟩) (hby : (P.info? e).map (·.bytes) = some 1) (hI : Inv X S0 w0 S wr (pre ++ tl ++ post) wa) (hrow : RowOK e 1 v xs tl)
    (h63 : v.n + l.length ≤ 140737488355328) :
    ∃ a' c' tl' wb, (Builtin.append_ #[t, u] ty #[.slice v.a v.n v.c, .string (B l)]).run P wa = .ok (.slice a' (v.n + l.length) c') wb ∧ RowOK e 1 ⟨a', v.n + l.length, c'⟩ (xs ++ byteCells l) tl' ∧ Inv X S0 w0 S wr (pre ++ tl' ++ post) wb := by
  have hu := (hT.spec ht).2
  have huu := (hT.spec htu).2
  simp only at hu huu
  obtain ⟨i, hi, hs, hzi⟩ := (hT.spec hti).1
  simp only at hs hzi
  have hbi : i.bytes = 1 := by simpa [hi] using hby
  have hsz : (B l).size = l.length := rfl
  have hsc : Lib.strCells (B l) = byteCells l := rfl
  have hx : xs.length = v.n := by simpa using hrow.1
  have hlen : (xs ++ byteCells l).length = (v.n + l.length) * 1 := by rw [List.length_append, hx, byteCells_len, Nat.mul_one]
  obtain ⟨va, vn, vc⟩ := v
  simp only at *
  have hpre : Inv X S0 w0 S wr (pre ++ post) wa := hI.fewer ((List.sublist_append_left pre tl).append (List.Sublist.refl post))
  have grow : ∀ old, old < vn + l.length → (∀ c,
      (Builtin.append_ #[t, u] ty #[.slice va vn vc, .string (B l)]).run P wa = .ok (.slice (some ⟨wa.heap.size, 0, none⟩) (vn + l.length) (grownCap wa (vn + l.length) old e)) (wa.drew.alloc (.cells (xs.toArray ++ (byteCells l).toArray ++ Builtin.zeroCells #[.int .u8 0] (grownCap wa (vn + l.length) old e - (vn + l.length))) e)) →
      c = (Builtin.append_ #[t, u] ty #[.slice va vn vc, .string (B l)]).run P wa →
      ∃ a' c' tl' wb, c = .ok (.slice a' (vn + l.length) c') wb ∧ RowOK e 1 ⟨a', vn + l.length, c'⟩ (xs ++ byteCells l) tl' ∧ Inv X S0 w0 S wr (pre ++ tl' ++ post) wb) := by
    intro old ho c hr hce
    rw [hr] at hce
    have hge := grownCap_ge wa (vn + l.length) old e
    have hcm := grownCap_le_maxLen wa (vn + l.length) old e (by simp only [maxLen]; omega)
    let rest : List Value := (Builtin.zeroCells #[Value.int .u8 0] (grownCap wa (vn + l.length) old e - (vn + l.length))).toList
    refine ⟨_, _, [⟨wa.heap.size, e, (xs ++ byteCells l) ++ rest⟩], _, hce, ⟨hlen, .inr ⟨wa.heap.size, rest, rfl, rfl, hge, hcm, ?_⟩⟩, ?_⟩
    · have hrl : rest.length = grownCap wa (vn + l.length) old e - (vn + l.length) := by
        simp only [rest, Array.length_toList, size_zeroCells]
        simp
      rw [List.length_append, hlen, hrl]
      simp only
      omega
    · have h2 := (hpre.drew).alloc ((xs ++ byteCells l) ++ rest) e
      refine Inv.swap (x := [⟨wa.heap.size, e, (xs ++ byteCells l) ++ rest⟩]) ?_ rfl
      have e1 : ((xs ++ byteCells l) ++ rest).toArray = xs.toArray ++ (byteCells l).toArray ++ Builtin.zeroCells #[Value.int .u8 0] (grownCap wa (vn + l.length) old e - (vn + l.length)) := by
        apply Array.ext'
        simp [rest]
      rw [e1] at h2
      exact h2
  rcases hrow.2 with ⟨h, rfl⟩ | ⟨g, rest, rfl, rfl, hnc, hcm, hl2⟩
  · simp only [Sl.mk.injEq] at h
    obtain ⟨rfl, rfl, rfl⟩ := h
    have hx0 : xs = [] := List.eq_nil_of_length_eq_zero hx
    subst hx0
    by_cases hl0 : l.length = 0
    · have : l = [] := List.eq_nil_of_length_eq_zero hl0
      subst this
      refine ⟨none, 0, [], wa, ?_, RowOK.nil e 1, hI⟩
      have h0 : (B []).size = 0 := rfl
      simp [Builtin.append_, run_underlying hu, run_underlying huu, sizeOf, typeInfo, hi, Builtin.lenOf, Builtin.firstCells, h0]
    have hr := run_append_nil_string (P := P) wa t u ty e i (.int .u8 0) hu huu hi hzi (B l) (by rw [hsz]; omega) (by rw [hsz]; omega) (by rw [hsz, hbi]; omega)
    refine grow 0 (by omega) _ ?_ rfl
    rw [hr, hsz]
    simp only [Nat.zero_add]
    have e2 : (B l).data.map (fun b => Value.int .u8 (b.toNat : Int)) = #[] ++ (byteCells l).toArray := by
      apply Array.ext'
      simp [byteCells, B]
    rw [e2]
    rfl
  · dsimp only at hnc hcm hl2
    have hg : wa.heap[g]? = some (.cells (xs ++ rest).toArray e (0, 0)) := hI.own ⟨g, e, xs ++ rest⟩ (by simp)
    by_cases hroom : vn + l.length ≤ vc
    · have hfit : vn + (B l).size ≤ (xs ++ rest).toArray.size := by
        simp only [List.size_toArray]
        rw [hl2, hsz]; omega
      have hr := Lib.run_append_room_string (P := P) wa t u ty e i hu huu hi hs g vn vc _ hg (B l) (by rw [hsz]; exact hroom) hfit
      have e1 : (xs ++ rest).toArray.toList.take vn ++ Lib.strCells (B l) ++ (xs ++ rest).toArray.toList.drop (vn + (B l).size) = (xs ++ byteCells l) ++ rest.drop l.length := by
        rw [← hx]
        simp only []
        rw [List.take_left, List.drop_append, hsc, hsz]
        simp
      rw [e1, hsz] at hr
      refine ⟨_, _, [⟨g, e, (xs ++ byteCells l) ++ rest.drop l.length⟩], _, hr, ⟨hlen, .inr ⟨g, rest.drop l.length, rfl, rfl, hroom, hcm, ?_⟩⟩, ?_⟩
      · simp only [List.length_append, List.length_drop, byteCells_len] at hl2 ⊢
        omega
      · have hw := wrote_setRow (cs := (xs ++ byteCells l) ++ rest.drop l.length) hg
        have h3 := hI.wrote (h := pre.length) (lb := ⟨g, e, xs ++ rest⟩) (by simp) hw
        have e2 : (pre ++ [(⟨g, e, xs ++ rest⟩ : LB)] ++ post).set pre.length { (⟨g, e, xs ++ rest⟩ : LB) with cells := (xs ++ byteCells l) ++ rest.drop l.length } = pre ++ [⟨g, e, (xs ++ byteCells l) ++ rest.drop l.length⟩] ++ post := by
          rw [List.append_assoc, List.set_append_right _ _ (Nat.le_refl _)]
          simp
        rw [e2] at h3
        exact h3
    · have holds : ∀ j u, xs[j]? = some u → wa.cell? ((⟨g, 0, none⟩ : Addr).add j) = some u := by
        intro j u hj
        rw [addr_add, cell_of hg]
        have := (List.getElem?_eq_some_iff.1 hj).1
        simp [List.getElem?_append_left this, hj]
      have hr := Lib.run_append_grow_string (P := P) wa t u ty e i (.int .u8 0) hu huu hi hzi ⟨g, 0, none⟩ vn vc xs (by rw [hs, hx]; simp) holds (B l) (by rw [hsz]; omega) (by rw [hsz]; omega) (growslice_fits (by rw [hsz]; omega) (by rw [hsz, hbi]; omega))
      rw [hsz] at hr
      exact grow vc (by omega) _ hr rfl

theorem RV_appendS (hT : TabOK P T) {c k t u e : Nat} {v : Sl} {xs : List Value} {l : List UInt8} {dst : Option Nat} (pre tl : List LB)
    (he : apsAt T n ops k st.m = some (t, u, e, v, B l, dst)) (hl : st.l = pre ++ tl)
    (hby : (P.info? e).map (·.bytes) = some 1) (hrow : RowOK e 1 v xs tl) (h63 : v.n + l.length ≤ 140737488355328)
    (h : ∀ a' c' tl', RowOK e 1 ⟨a', v.n + l.length, c'⟩ (xs ++ byteCells l) tl' → RV P n ops Q X S0 w0 c (k + 1) S wr ⟨put st.m dst (.slice a' (v.n + l.length) c'), pre ++ tl'⟩) : RV P n ops Q X S0 w0 (c + 1) k S wr st := by
  intro a wa hA hI
  rw [List.range'_succ, wpOps_cons]
  rw [hl, ← List.append_nil (pre ++ tl)] at hI
  unfold apsAt at he
  cases hi : ops[k]? with
  | none => rw [hi] at he; cases he
  | some o =>
    rw [hi] at he
    simp only at he
    by_cases hdst : okDst n o.dst = true
    · rw [hdst] at he
      simp only [cond_true] at he
      obtain ⟨dst', op, type, pos, after, guard⟩ := o
      split at he
      · rename_i ax ats hw hop
        simp only at hop
        subst hop
        split at he
        · rename_i s y t1 t2 hxs hts
          split at he
          · rename_i a1 k1 c1 zz sz z1 e1 su zu hs hx ht htu
            split at he
            · rename_i d hti
              simp only [Option.some.injEq, Prod.mk.injEq] at he
              obtain ⟨rfl, rfl, rfl, rfl, rfl, rfl⟩ := he
              obtain ⟨a', c', tl', wb, hr, hrow', hI'⟩ := run_append_rowS (ty := type) hT ht htu hti hby hI hrow h63
              rw [List.append_nil] at hI'
              unfold wpOp
              rw [hi]
              simp only
              rw [wantedV_spec hA hw]
              simp only [if_true]
              refine .inl ?_
              have e1 : ax = #[s, y] := Array.ext' (by simpa using hxs)
              have e2 : ats = #[t1, t2] := Array.ext' (by simpa using hts)
              subst e1 e2
              unfold Oper.wp
              simp only [execOp, resolve, invoke, builtin, Sem.run_bind, Sem.run_pure, Result.andThen_ok, List.map_toArray, List.map_cons, List.map_nil, ev_eval hA hs, ev_eval hA hx, hr, Oper.upon]
              exact h a' c' tl' hrow' _ _ (hA.put (okDst_spec hdst)) hI'
            · cases he
          · cases he
        · cases he
      · cases he
    · rw [Bool.not_eq_true] at hdst
      rw [hdst] at he; cases he

end
end Eng
end Go.YtmfkmoecbnghhaaDoor
