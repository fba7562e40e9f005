/- Rows of one's own that are appended to, and written no more in the end. -/
import Derived.Test.YtmfkmoecbnghhaaDoorEngI
namespace Go.YtmfkmoecbnghhaaDoor
namespace Eng

theorem isCell_one {v : Value} (h : isCell v = true) : v.oneCell' = true := by cases v <;> first | rfl | cases h

/-- A row that one appends to: what it holds, and where it lies. -/
def RowOK (e size : Nat) (v : Sl) (xs : List Value) (tl : List LB) : Prop :=
  xs.length = v.n * size ∧ ((v = ⟨none, 0, 0⟩ ∧ tl = []) ∨ ∃ g rest, v.a = some ⟨g, 0, none⟩ ∧ tl = [⟨g, e, xs ++ rest⟩] ∧ v.n ≤ v.c ∧ v.c ≤ maxLen ∧ (xs ++ rest).length = v.c * size)

theorem RowOK.nil (e size : Nat) : RowOK e size ⟨none, 0, 0⟩ [] [] := ⟨by simp, .inl ⟨rfl, rfl⟩⟩

/-- A row out of a literal. -/
theorem RowOK.lit {e size g n : Nat} {xs : List Value} (h : xs.length = n * size) (hn : n ≤ maxLen) : RowOK e size ⟨some ⟨g, 0, none⟩, n, n⟩ xs [⟨g, e, xs⟩] :=
  ⟨h, .inr ⟨g, [], rfl, by simp, Nat.le_refl _, hn, by simpa using h⟩⟩

/-- What is appended. -/
def SrcIs (w : World) (size : Nat) (x : Sl) (news : List Value) : Prop :=
  news.length = x.n * size ∧ ((x.a = none ∧ x.n = 0) ∨ ∃ ad, x.a = some ad ∧ ∀ j u, news[j]? = some u → w.cell? (ad.add j) = some u)

def appAt (T : Tab) (n : Nat) (ops : Array Oper) (i : Nat) (m : Mp) : Option (Nat × Nat × TI × Sl × Sl × Option Nat) :=
  match ops[i]? with
  | none => none
  | some o => bif okDst n o.dst then
    match wantedV ops m o, o.op with
    | some true, .call ⟨.builtin .append, xs, ts⟩ => match xs.toList, ts.toList with
      | [s, x], [t, t'] => bif Nat.beq t t' then
        match ev m s, ev m x, T.get t with
        | some (.slice a k c), some (.slice a' k' c'), some ⟨_, _, .slice e⟩ => match T.get e with
          | some ti => some (t, e, ti, ⟨a, k, c⟩, ⟨a', k', c'⟩, o.dst)
          | none => none
        | _, _, _ => none
        else none
      | _, _ => none
    | _, _ => none
    else none

section
variable {P : Program} {T : Tab} {n : NN} {ops : Array Oper} {Q : Exit → Act → World → Prop} {X S0 : Nat → Prop} {w0 : World} {S : Nat → Prop} {wr : World} {st : St} {K : Exit → Act → World → Prop}

theorem wrote_setRow {g : Nat} {e : TypeId} {cs : List Value} {old : Array Value} {w : World} (h : w.heap[g]? = some (.cells old e (0, 0))) : Wrote g e cs w (w.setRow g cs.toArray) :=
  ⟨rfl, rfl, rfl, by simp [World.setRow], setRow_heap w g old _ e _ h, fun k hk => setRow_other w g k _ hk⟩

theorem Inv.swap {pre post : List LB} {x y : List LB} {wa : World} (hI : Inv X S0 w0 S wr (x ++ (pre ++ post)) wa) (h : x = y) : Inv X S0 w0 S wr (pre ++ y ++ post) wa := by
  subst h
  exact hI.perm (by
    rw [← List.append_assoc]
    exact (List.perm_append_comm).append_right post)

theorem run_append_row (hT : TabOK P T) {t e : Nat} {sz : Nat} {z : Value} {ti : TI} {by' : Nat} {ty : TypeId} {wa : World} {v x : Sl} {xs news : List Value} {pre tl post : List LB} (ht : T.get t = some ⟨sz, z, .slice e⟩) (hti : T.get e = some ti)
    (hby : (P.info? e).map (·.bytes) = some by') (hz : (cellsL ti.zero).length = ti.size) (_hpos : 0 < ti.size) (hI : Inv X S0 w0 S wr (pre ++ tl ++ post) wa) (hrow : RowOK e ti.size v xs tl) (hsrc : SrcIs wa ti.size x news) (hc : news.all isCell = true)
    (h63 : v.n + x.n ≤ maxLen) (hb : (v.n + x.n) * by' ≤ 140737488355328) :
    ∃ a' c' tl' wb, (Builtin.append_ #[t, t] ty #[.slice v.a v.n v.c, .slice x.a x.n x.c]).run P wa = .ok (.slice a' (v.n + x.n) c') wb ∧ RowOK e ti.size ⟨a', v.n + x.n, c'⟩ (xs ++ news) tl' ∧ Inv X S0 w0 S wr (pre ++ tl' ++ post) wb := by
  have hu := (hT.spec ht).2
  simp only at hu
  obtain ⟨i, hi, hs, hzi⟩ := (hT.spec hti).1
  have hbi : i.bytes = by' := by simpa [hi] using hby
  subst hbi
  have hzs : ti.zero.cells.size = ti.size := by
    have := cellsL_eq ti.zero
    rw [← hz, ← this]; simp
  have h63' : v.n + x.n ≤ 9223372036854775807 := by simp only [maxLen] at h63; omega
  have h1 : ∀ u ∈ news, u.oneCell' = true := fun u hu => isCell_one (List.all_eq_true.1 hc u hu)
  have hlen : (xs ++ news).length = (v.n + x.n) * ti.size := by rw [List.length_append, hrow.1, hsrc.1, Nat.add_mul]
  obtain ⟨va, vn, vc⟩ := v
  obtain ⟨xa, xn, xc⟩ := x
  simp only at *
  have hpre : Inv X S0 w0 S wr (pre ++ post) wa := hI.fewer ((List.sublist_append_left pre tl).append (List.Sublist.refl post))
  rcases hsrc.2 with ⟨rfl, rfl⟩ | ⟨ad, rfl, hnews⟩
  · -- nothing is appended
    have hn0 : news = [] := List.eq_nil_of_length_eq_zero (by simpa using hsrc.1)
    subst hn0
    refine ⟨va, vc, tl, wa, ?_, by simpa using hrow, hI⟩
    rcases hrow.2 with ⟨h, rfl⟩ | ⟨g, rest, rfl, rfl, hnc, hcm, hl2⟩
    · simp only [Sl.mk.injEq] at h
      obtain ⟨rfl, rfl, rfl⟩ := h
      simp [Builtin.append_, run_underlying hu, sizeOf, typeInfo, hi, Builtin.lenOf, Builtin.firstCells]
    · simp [Builtin.append_, run_underlying hu, sizeOf, typeInfo, hi, Builtin.lenOf, Builtin.firstCells, hnc, storeCells]
  · have grow : ∀ old, old < vn + xn → (∀ c, 
        (Builtin.append_ #[t, t] ty #[.slice va vn vc, .slice (some ad) xn xc]).run P wa = .ok (.slice (some ⟨wa.heap.size, 0, none⟩) (vn + xn) (grownCap wa (vn + xn) old e)) (wa.drew.alloc (.cells (xs.toArray ++ news.toArray ++ Builtin.zeroCells ti.zero.cells (grownCap wa (vn + xn) old e - (vn + xn))) e)) → 
        c = (Builtin.append_ #[t, t] ty #[.slice va vn vc, .slice (some ad) xn xc]).run P wa →
        ∃ a' c' tl' wb, c = .ok (.slice a' (vn + xn) c') wb ∧ RowOK e ti.size ⟨a', vn + xn, c'⟩ (xs ++ news) tl' ∧ Inv X S0 w0 S wr (pre ++ tl' ++ post) wb) := by
      intro old ho c hr hce
      rw [hr] at hce
      have hge := grownCap_ge wa (vn + xn) old e
      have hcm := grownCap_le_maxLen wa (vn + xn) old e h63
      let rest : List Value := (Builtin.zeroCells ti.zero.cells (grownCap wa (vn + xn) old e - (vn + xn))).toList
      refine ⟨_, _, [⟨wa.heap.size, e, (xs ++ news) ++ rest⟩], _, hce, ⟨hlen, .inr ⟨wa.heap.size, rest, rfl, rfl, hge, hcm, ?_⟩⟩, ?_⟩
      · simp only [List.length_append, rest, Array.length_toList, size_zeroCells, hzs]
        rw [← List.length_append, hlen, ← Nat.add_mul]
        congr 1
        omega
      · have h2 := (hpre.drew).alloc ((xs ++ news) ++ rest) e
        refine Inv.swap (x := [⟨wa.heap.size, e, (xs ++ news) ++ rest⟩]) ?_ rfl
        have e1 : ((xs ++ news) ++ rest).toArray = xs.toArray ++ news.toArray ++ Builtin.zeroCells ti.zero.cells (grownCap wa (vn + xn) old e - (vn + xn)) := by
          apply Array.ext'
          simp [rest]
        rw [e1] at h2
        exact h2
    rcases hrow.2 with ⟨h, rfl⟩ | ⟨g, rest, rfl, rfl, hnc, hcm, hl2⟩
    · simp only [Sl.mk.injEq] at h
      obtain ⟨rfl, rfl, rfl⟩ := h
      have hx0 : xs = [] := List.eq_nil_of_length_eq_zero (by simpa using hrow.1)
      subst hx0
      by_cases hm : xn = 0
      · subst hm
        have hn0 : news = [] := List.eq_nil_of_length_eq_zero (by simpa using hsrc.1)
        subst hn0
        refine ⟨none, 0, [], wa, ?_, RowOK.nil e ti.size, hI⟩
        simp [Builtin.append_, run_underlying hu, sizeOf, typeInfo, hi, Builtin.lenOf, Builtin.firstCells, loadCells, loadCellsFrom]
      · have hr := run_append_nil (P := P) wa t ty e i ti.zero hu hi hzi ad xn xc news (by rw [hs]; exact hsrc.1) hnews (by omega) (by omega) (by simp only [Nat.zero_add] at hb; omega)
        refine grow 0 (by omega) _ ?_ rfl
        simp only [Nat.zero_add]
        rw [hr]
        simp
    · dsimp only at hnc hcm hl2
      by_cases hroom : vn + xn ≤ vc
      · have hg : wa.heap[g]? = some (.cells (xs ++ rest).toArray e (0, 0)) := hI.own ⟨g, e, xs ++ rest⟩ (by simp)
        have hfit : vn * i.size + news.length ≤ (xs ++ rest).toArray.size := by
          simp only [List.size_toArray]
          rw [hl2, hsrc.1, hs, ← Nat.add_mul]; exact Nat.mul_le_mul_right _ hroom
        have hr := run_append_room (P := P) wa t ty e i hu hi g vn vc _ hg ad xn xc news (by rw [hs]; exact hsrc.1) hnews h1 hroom hfit
        have e1 : (xs ++ rest).toArray.toList.take (vn * i.size) ++ news ++ (xs ++ rest).toArray.toList.drop (vn * i.size + news.length) = (xs ++ news) ++ rest.drop news.length := by
          have hx : vn * i.size = xs.length := by rw [hrow.1, hs]
          rw [hx]
          simp only []
          rw [List.take_left, List.drop_append]
          simp
        rw [e1] at hr
        refine ⟨_, _, [⟨g, e, (xs ++ news) ++ rest.drop news.length⟩], _, hr, ⟨hlen, .inr ⟨g, rest.drop news.length, rfl, rfl, hroom, hcm, ?_⟩⟩, ?_⟩
        · have hf2 := hfit
          simp only [List.size_toArray] at hf2
          rw [hl2] at hf2
          have hx : vn * i.size = xs.length := by rw [hrow.1, hs]
          simp only [List.length_append, List.length_drop] at hl2 ⊢
          omega
        · have hw := wrote_setRow (cs := (xs ++ news) ++ rest.drop news.length) hg
          have h3 := hI.wrote (h := pre.length) (lb := ⟨g, e, xs ++ rest⟩) (by simp) hw
          have e2 : (pre ++ [(⟨g, e, xs ++ rest⟩ : LB)] ++ post).set pre.length { (⟨g, e, xs ++ rest⟩ : LB) with cells := (xs ++ news) ++ rest.drop news.length } = pre ++ [⟨g, e, (xs ++ news) ++ rest.drop news.length⟩] ++ post := by
            rw [List.append_assoc, List.set_append_right _ _ (Nat.le_refl _)]
            simp
          rw [e2] at h3
          exact h3
      · have holds : ∀ j u, xs[j]? = some u → wa.cell? ((⟨g, 0, none⟩ : Addr).add j) = some u := by
          intro j u hj
          have hg : wa.heap[g]? = some (.cells (xs ++ rest).toArray e (0, 0)) := hI.own ⟨g, e, xs ++ rest⟩ (by simp)
          rw [addr_add, cell_of hg]
          have := (List.getElem?_eq_some_iff.1 hj).1
          simp [List.getElem?_append_left this, hj]
        have hr := run_append_grow (P := P) wa t ty e i ti.zero hu hi hzi ⟨g, 0, none⟩ vn vc xs (by rw [hs]; exact hrow.1) holds ad xn xc news (by rw [hs]; exact hsrc.1) hnews (by omega) (by omega) (growslice_fits (by omega) hb)
        exact grow vc (by omega) _ hr rfl

theorem Does_append (hT : TabOK P T) {i t e : Nat} {ti : TI} {by' : Nat} {v x : Sl} {xs news : List Value} {dst : Option Nat} (pre tl post : List LB)
    (he : appAt T n ops i st.m = some (t, e, ti, v, x, dst)) (hl : st.l = pre ++ tl ++ post)
    (hby : (P.info? e).map (·.bytes) = some by') (hz : (Nat.beq (cellsL ti.zero).length ti.size && Nat.blt 0 ti.size) = true) (hrow : RowOK e ti.size v xs tl) (hsrc : ∀ wa, Inv X S0 w0 S wr st.l wa → SrcIs wa ti.size x news) (hc : news.all isCell = true)
    (h63 : v.n + x.n ≤ maxLen) (hb : (v.n + x.n) * by' ≤ 140737488355328) :
    Does P n ops Q X S0 w0 i S wr st fun S' wr' st1 => S' = S ∧ wr' = wr ∧ ∃ a' c' tl', RowOK e ti.size ⟨a', v.n + x.n, c'⟩ (xs ++ news) tl' ∧ st1 = ⟨put st.m dst (.slice a' (v.n + x.n) c'), pre ++ tl' ++ post⟩ := by
  intro a wa K hA hI hK
  have hsrc' := hsrc wa hI
  rw [hl] at hI
  simp only [Bool.and_eq_true] at hz
  unfold appAt at he
  cases hi : ops[i]? with
  | none => rw [hi] at he; cases he
  | some o =>
    rw [hi] at he
    simp only at he
    by_cases hdst : okDst n o.dst = true
    · rw [hdst] at he
      simp only [cond_true] at he
      obtain ⟨dst', op, type, pos, after, guard⟩ := o
      split at he
      · rename_i ax ats hw hop
        simp only at hop
        subst hop
        split at he
        · rename_i s y t1 t2 hxs hts
          by_cases htt : Nat.beq t1 t2 = true
          · rw [htt] at he
            have htt' := Nat.eq_of_beq_eq_true htt
            subst htt'
            simp only [cond_true] at he
            split at he
            · rename_i a1 k1 c1 a2 k2 c2 sz zz e1 hs hx ht
              split at he
              · rename_i ti1 hti
                simp only [Option.some.injEq, Prod.mk.injEq] at he
                obtain ⟨rfl, rfl, rfl, rfl, rfl, rfl⟩ := he
                obtain ⟨a', c', tl', wb, hr, hrow', hI'⟩ := run_append_row (ty := type) hT ht hti hby (Nat.eq_of_beq_eq_true hz.1) (Nat.le_of_ble_eq_true hz.2) hI hrow hsrc' hc h63 hb
                unfold wpOp
                rw [hi]
                simp only
                rw [wantedV_spec hA hw]
                simp only [if_true]
                refine .inl ?_
                have e1 : ax = #[s, y] := Array.ext' (by simpa using hxs)
                have e2 : ats = #[t1, t1] := Array.ext' (by simpa using hts)
                subst e1 e2
                unfold Oper.wp
                simp only [execOp, resolve, invoke, builtin, Sem.run_bind, Sem.run_pure, Result.andThen_ok, List.map_toArray, List.map_cons, List.map_nil, ev_eval hA hs, ev_eval hA hx, hr, Oper.upon]
                exact hK S wr _ ⟨rfl, rfl, a', c', tl', hrow', rfl⟩ _ _ (hA.put (okDst_spec hdst)) hI'
              · cases he
            · cases he
          · rw [Bool.not_eq_true] at htt
            rw [htt] at he; cases he
        · cases he
      · cases he
    · rw [Bool.not_eq_true] at hdst
      rw [hdst] at he; cases he

theorem RV_append (hT : TabOK P T) {c k t e : Nat} {ti : TI} {by' : Nat} {v x : Sl} {xs news : List Value} {dst : Option Nat} (pre tl post : List LB)
    (he : appAt T n ops k st.m = some (t, e, ti, v, x, dst)) (hl : st.l = pre ++ tl ++ post)
    (hby : (P.info? e).map (·.bytes) = some by') (hz : (Nat.beq (cellsL ti.zero).length ti.size && Nat.blt 0 ti.size) = true) (hrow : RowOK e ti.size v xs tl) (hsrc : ∀ wa, Inv X S0 w0 S wr st.l wa → SrcIs wa ti.size x news) (hc : news.all isCell = true)
    (h63 : v.n + x.n ≤ maxLen) (hb : (v.n + x.n) * by' ≤ 140737488355328)
    (h : ∀ a' c' tl', RowOK e ti.size ⟨a', v.n + x.n, c'⟩ (xs ++ news) tl' → RV P n ops Q X S0 w0 c (k + 1) S wr ⟨put st.m dst (.slice a' (v.n + x.n) c'), pre ++ tl' ++ post⟩) : RV P n ops Q X S0 w0 (c + 1) k S wr st :=
  RV_does (Does_append hT pre tl post he hl hby hz hrow hsrc hc h63 hb) fun S' wr' st1 ⟨h1, h2, a', c', tl', h3, h4⟩ => by subst h1 h2 h4; exact h a' c' tl' h3

/-- What is appended lies in a block of one's own. -/
theorem SrcIs.own {size : Nat} {b ty k c : Nat} {l : List LB} {wa : World} {news : List Value} (hI : Inv X S0 w0 S wr l wa) (hm : (⟨b, ty, news⟩ : LB) ∈ l) (hl : news.length = k * size) : SrcIs wa size ⟨some ⟨b, 0, none⟩, k, c⟩ news :=
  ⟨hl, .inr ⟨_, rfl, fun j u hj => by
    rw [addr_add, cell_of (hI.own _ hm)]
    simpa using hj⟩⟩

/-- The cells of a row of data. -/
theorem RSl.cells {α : Type} {E : Enc α} {w : World} {x : Sl} {xs : List α} (h : RSl E S w x xs) :
    ∃ cs, cs.length = xs.length * E.n ∧ Reads E S w cs xs ∧ cs.all isCell = true ∧ (∀ {S' : Nat → Prop} {w' : World}, Ext S w S' w' → SrcIs w' E.n x cs) := by
  rcases h.a with h2 | ⟨b, o, cs, ty, fr, h1, h2, h3, h4, h5⟩
  · have hn : xs = [] := List.eq_nil_of_length_eq_zero (by have := h.n; have := h.c; omega)
    subst hn
    have hx : x.n = 0 := by simpa using h.n
    exact ⟨[], by simp, fun i hi => by simp at hi, rfl, fun _ => ⟨by simp [hx], by
      cases ha : x.a with
      | none => exact .inl ⟨rfl, hx⟩
      | some ad => exact .inr ⟨ad, rfl, fun j u hj => by simp at hj⟩⟩⟩
  · have hle : xs.length * E.n ≤ (cs.toList.drop o).length := by
      have := h.n; have h6 := h.c
      have := Nat.mul_le_mul_right E.n h6
      simp only [List.length_drop, Array.length_toList]
      rw [h.n] at this
      omega
    refine ⟨(cs.toList.drop o).take (xs.length * E.n), by rw [List.length_take]; omega, fun i hi => ?_, ?_, fun hx => ⟨by rw [List.length_take, h.n]; omega, .inr ⟨_, h1, fun j u hj => ?_⟩⟩⟩
    · obtain ⟨vs, h6, h7⟩ := h5 i hi
      refine ⟨vs, ?_, h7⟩
      rw [← h6, List.drop_take, List.take_take]
      congr 1
      have : (i + 1) * E.n ≤ xs.length * E.n := Nat.mul_le_mul_right _ hi
      rw [Nat.add_mul] at this
      omega
    · rw [List.all_eq_true]
      intro u hu
      obtain ⟨j, hj, rfl⟩ := List.mem_iff_getElem.1 hu
      rw [List.length_take] at hj
      have hj' : j < xs.length * E.n := by omega
      have hpos : 0 < E.n := by
        rcases Nat.eq_zero_or_pos E.n with h0 | h0
        · rw [h0] at hj'; simp at hj'
        · exact h0
      obtain ⟨vs, h6, h7⟩ := h5 (j / E.n) (by rw [Nat.div_lt_iff_lt_mul hpos]; exact hj')
      have hc := E.cell h7
      rw [List.all_eq_true] at hc
      apply hc
      rw [← h6]
      rw [List.getElem_take]
      have e1 : j = j / E.n * E.n + j % E.n := by rw [Nat.mul_comm]; exact (Nat.div_add_mod j E.n).symm
      have hm : j % E.n < E.n := Nat.mod_lt _ hpos
      refine List.mem_iff_getElem.2 ⟨j % E.n, ?_, ?_⟩
      · rw [List.length_take, List.length_drop]; omega
      · rw [List.getElem_take, List.getElem_drop]
        congr 1
        exact e1.symm
    · have hb := (hx.same b h2).trans h3
      rw [addr_add, cell_of hb]
      have hj' := (List.getElem?_eq_some_iff.1 hj).1
      rw [List.getElem?_take, if_pos (by rw [List.length_take] at hj'; omega), List.getElem?_drop, Array.getElem?_toList] at hj
      exact hj

theorem Reads.app {α : Type} {E : Enc α} {w : World} {cs ds : List Value} {xs ys : List α} (h : Reads E S w cs xs) (hl : cs.length = xs.length * E.n) (k : Reads E S w ds ys) : Reads E S w (cs ++ ds) (xs ++ ys) := by
  intro i hi
  rcases Nat.lt_or_ge i xs.length with h1 | h1
  · obtain ⟨vs, h2, h3⟩ := h i h1
    refine ⟨vs, ?_, by rw [List.getElem_append_left h1]; exact h3⟩
    have : (i + 1) * E.n ≤ xs.length * E.n := Nat.mul_le_mul_right _ h1
    rw [Nat.add_mul] at this
    rw [List.drop_append_of_le_length (by omega), List.take_append_of_le_length (by rw [List.length_drop]; omega)]
    exact h2
  · rw [List.length_append] at hi
    obtain ⟨vs, h2, h3⟩ := k (i - xs.length) (by omega)
    refine ⟨vs, ?_, by rw [List.getElem_append_right h1]; exact h3⟩
    rw [← h2, List.drop_append, List.drop_eq_nil_of_le (by rw [hl]; exact Nat.mul_le_mul_right _ h1), List.nil_append, hl, ← Nat.mul_sub_right_distrib]

theorem Reads.more {α : Type} {E : Enc α} {w : World} {cs : List Value} {xs : List α} (h : Reads E S w cs xs) (hl : cs.length = xs.length * E.n) (r : List Value) : Reads E S w (cs ++ r) xs := by
  have := h.app hl (ds := r) (ys := []) (fun i hi => by simp at hi)
  simpa using this

theorem Reads.one {α : Type} {E : Enc α} {w : World} {cs : List Value} {x : α} (h : E.rep S w cs x) : Reads E S w cs [x] := by
  intro i hi
  have : i = 0 := by simpa using hi
  subst this
  exact ⟨cs, by simp [← E.len h], by simpa using h⟩

theorem Reads.nil {α : Type} {E : Enc α} {w : World} {cs : List Value} : Reads E S w cs [] := fun i hi => by simp at hi

/-! ### A row is written no more -/

theorem Inv.freezeRow {pre tl post : List LB} {wa : World} {e size : Nat} {v : Sl} {xs : List Value} (hI : Inv X S0 w0 S wr (pre ++ tl ++ post) wa) (hrow : RowOK e size v xs tl) (hm : ∀ lb ∈ tl, ¬ X lb.id) :
    Inv X S0 w0 (fun b => S b ∨ ∃ lb ∈ tl, b = lb.id) wa (pre ++ post) wa := by
  rcases hrow.2 with ⟨_, rfl⟩ | ⟨g, rest, _, rfl, _⟩
  · have e1 : (fun b => S b ∨ ∃ lb ∈ ([] : List LB), b = lb.id) = S := by funext b; simp
    rw [e1]
    have hI2 := hI
    rw [List.append_nil] at hI2
    exact ⟨hI2.own, hI2.nd, hI2.sep, fun _ _ => rfl, hI2.lt, hI2.ext, hI2.old, hI2.base, hI2.mine⟩
  · have hI2 := hI
    rw [List.append_assoc] at hI2
    have := hI2.freeze (hm _ (by simp))
    have e1 : (fun b => S b ∨ ∃ lb ∈ [(⟨g, e, xs ++ rest⟩ : LB)], b = lb.id) = fun b => S b ∨ b = g := by funext b; simp
    rw [e1]
    exact this

theorem RowOK.rsl {α : Type} {E : Enc α} {e : Nat} {v : Sl} {xs : List Value} {ys : List α} {tl : List LB} {wa : World} (hrow : RowOK e E.n v xs tl) (hS : ∀ lb ∈ tl, S lb.id) (hown : OwnL tl wa) (hn : v.n = ys.length) (hr : Reads E S wa xs ys) : RSl E S wa v ys := by
  rcases hrow.2 with ⟨rfl, rfl⟩ | ⟨g, rest, ha, rfl, hnc, hcm, hl⟩
  · have : ys = [] := List.eq_nil_of_length_eq_zero (by simpa using hn.symm)
    subst this
    exact RSl.nil E S wa
  · refine ⟨hn, hnc, .inr ⟨g, 0, (xs ++ rest).toArray, e, (0, 0), ha, hS ⟨g, e, xs ++ rest⟩ (by simp), hown ⟨g, e, xs ++ rest⟩ (by simp), ?_, ?_⟩⟩
    · simp only [List.size_toArray]; omega
    · have := hr.more (by rw [hrow.1, hn]) rest
      simpa using this

theorem VC_freezeRow {c : Code} {e : Nat} {v : Sl} {xs : List Value} {size : Nat} (pre tl post : List LB) (hl : st.l = pre ++ tl ++ post) (hrow : RowOK e size v xs tl) (hm : ∀ lb ∈ tl, ¬ X lb.id)
    (h : ∀ S1 w1, Ext S wr S1 w1 → (∀ {α : Type} (E : Enc α) (ys : List α), E.n = size → v.n = ys.length → Reads E S1 w1 xs ys → RSl E S1 w1 v ys) → VC P n c K X S0 w0 S1 w1 ⟨st.m, pre ++ post⟩) : VC P n c K X S0 w0 S wr st := by
  intro a wa hA hI
  rw [hl] at hI
  have hf := hI.freezeRow hrow hm
  refine h (fun b => S b ∨ ∃ lb ∈ tl, b = lb.id) wa ⟨fun b hb => .inl hb, hI.ref⟩ (fun E ys he hn hr => ?_) a wa hA hf
  subst he
  exact hrow.rsl (fun lb hl => .inr ⟨lb, hl, rfl⟩) (fun lb hl => hI.own lb (by simp [hl])) hn hr

theorem KE_freezeRow {x : Exit} {e : Nat} {v : Sl} {xs : List Value} {size : Nat} (pre tl post : List LB) (hl : st.l = pre ++ tl ++ post) (hrow : RowOK e size v xs tl) (hm : ∀ lb ∈ tl, ¬ X lb.id)
    (h : ∀ S1 w1, Ext S wr S1 w1 → (∀ {α : Type} (E : Enc α) (ys : List α), E.n = size → v.n = ys.length → Reads E S1 w1 xs ys → RSl E S1 w1 v ys) → KE n x K X S0 w0 S1 w1 ⟨st.m, pre ++ post⟩) : KE n x K X S0 w0 S wr st := by
  intro a wa hA hI
  rw [hl] at hI
  have hf := hI.freezeRow hrow hm
  refine h (fun b => S b ∨ ∃ lb ∈ tl, b = lb.id) wa ⟨fun b hb => .inl hb, hI.ref⟩ (fun E ys he hn hr => ?_) a wa hA hf
  subst he
  exact hrow.rsl (fun lb hl => .inr ⟨lb, hl, rfl⟩) (fun lb hl => hI.own lb (by simp [hl])) hn hr

end
end Eng
end Go.YtmfkmoecbnghhaaDoor
