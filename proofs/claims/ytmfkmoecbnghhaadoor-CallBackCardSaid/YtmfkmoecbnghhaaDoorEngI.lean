/- What is known, put otherwise; '==' of structs and arrays; appends to rows of one's own. -/
import Derived.Test.YtmfkmoecbnghhaaDoorEngH
import Derived.Laws.StructEq
import Derived.ChangeKeysEq
import Derived.Laws.AppendOwn
namespace Go.YtmfkmoecbnghhaaDoor
namespace Eng

section
variable {P : Program} {T : Tab} {n : NN} {ops : Array Oper} {Q : Exit → Act → World → Prop} {X S0 : Nat → Prop} {w0 : World} {S : Nat → Prop} {wr : World} {st : St} {K : Exit → Act → World → Prop}

theorem VC_st {c : Code} (st' : St) (h : st = st') (k : VC P n c K X S0 w0 S wr st') : VC P n c K X S0 w0 S wr st := h ▸ k
theorem RV_st {c k : Nat} (st' : St) (h : st = st') (hk : RV P n ops Q X S0 w0 c k S wr st') : RV P n ops Q X S0 w0 c k S wr st := h ▸ hk
theorem RVd_st {lw : List LB} {Sr : Nat → Prop} {wrr : World} {fuel : Nat} {L : Array Bool} (st' : St) (h : st = st') (hk : RVd P n ops Q X S0 w0 lw Sr wrr fuel L S wr st') : RVd P n ops Q X S0 w0 lw Sr wrr fuel L S wr st := h ▸ hk
theorem KE_st {e : Exit} (st' : St) (h : st = st') (k : KE n e K X S0 w0 S wr st') : KE n e K X S0 w0 S wr st := h ▸ k

/-! ### Equality -/

def eqF (E : Nat → Value → Value → Option Bool) (T : Tab) (xs ys : List Value) : List Field → Option Bool
  | [] => some true
  | f :: r => bif f.name == "_" then none else
    match T.get f.type with
    | some ti => match partV ti xs f.offset, partV ti ys f.offset with
      | some a, some b => match E f.type a b, r with
        | some p, [] => some p
        | some p, r => (eqF E T xs ys r).map (p && ·)
        | none, _ => none
      | _, _ => none
    | none => none

def eqI (E : Value → Value → Option Bool) (ti : TI) (xs ys : List Value) : List Nat → Option Bool
  | [] => some true
  | i :: r => match partV ti xs (i * ti.size), partV ti ys (i * ti.size) with
      | some a, some b => match E a b, r with
        | some p, [] => some p
        | some p, r => (eqI E ti xs ys r).map (p && ·)
        | none, _ => none
      | _, _ => none

def eqV (T : Tab) : Nat → Nat → Value → Value → Option Bool
  | 0, _, _, _ => none
  | d + 1, t, x, y => match T.get t with
    | some ⟨_, _, .int _⟩ => match x, y with
      | .int k a, .int k' b => if k = k' then some (a == b) else none
      | _, _ => none
    | some ⟨_, _, .bool⟩ => match x, y with
      | .bool a, .bool b => some (a == b)
      | _, _ => none
    | some ⟨_, _, .string⟩ => match x, y with
      | .string a, .string b => some (a.toList == b.toList)
      | _, _ => none
    | some ⟨_, _, .struct fs⟩ => match x, y with
      | .agg xs, .agg ys => eqF (eqV T d) T xs.toList ys.toList fs.toList
      | _, _ => none
    | some ⟨_, _, .array m e⟩ => match T.get e with
      | some ti => match x, y with
        | .agg xs, .agg ys => eqI (eqV T d e) ti xs.toList ys.toList (List.range m)
        | _, _ => none
      | none => none
    | _ => none

def StOK (P : Program) (T : Tab) : Prop := ∀ t i, T.get t = some i → isAggD i.desc = true → P.stoodInHeld t = false ∧ P.eqGuardType P.depth t = false

theorem Tab.get_mem : ∀ {T : Tab} {t : Nat} {i : TI}, T.get t = some i → (t, i) ∈ T
  | (k, j) :: r, t, i, h => by
    simp only [Tab.get] at h
    by_cases hk : Nat.beq k t = true
    · rw [hk] at h
      simp only [cond_true, Option.some.injEq] at h
      subst h
      have := Nat.eq_of_beq_eq_true hk
      subst this
      simp
    · rw [Bool.not_eq_true] at hk
      rw [hk] at h
      exact List.mem_cons_of_mem _ (Tab.get_mem h)

theorem StOK_of (h : (T.all fun p => !(isAggD p.2.desc) || (!(P.stoodInHeld p.1) && !(P.eqGuardType P.depth p.1))) = true) : StOK P T := by
  intro t i e ha
  have := List.all_eq_true.1 h _ (Tab.get_mem e)
  simpa [ha] using this

theorem run_eqF {d : Nat} {xs ys : Array Value} {w : World} (hT : TabOK P T) (ih : ∀ t x y r, eqV T d t x y = some r → (Op.equalIn d t x y).run P w = .ok r w) :
    ∀ (fs : List Field) (r : Bool), eqF (eqV T d) T xs.toList ys.toList fs = some r → (Op.eqFields d xs ys fs).run P w = .ok r w
  | [], r, h => by
    simp only [eqF, Option.some.injEq] at h
    subst h
    rfl
  | f :: fs, r, h => by
    simp only [eqF] at h
    by_cases hn : (f.name == "_") = true
    · rw [hn] at h; cases h
    · rw [Bool.not_eq_true] at hn
      rw [hn] at h
      simp only [cond_false] at h
      have hn' : f.name ≠ "_" := by simpa using hn
      split at h
      · rename_i ti hti
        split at h
        · rename_i a b ha hb
          have pa := run_part (w := w) hT hti ha
          have pb := run_part (w := w) hT hti hb
          cases hE : eqV T d f.type a b with
          | none => rw [hE] at h; cases fs <;> cases h
          | some p =>
            rw [hE] at h
            have he := ih _ _ _ _ hE
            rw [Op.eqFields]
            simp only [if_pos hn', Sem.run_bind, pa, pb, he, Result.andThen_ok]
            have hrest : ∀ q, eqF (eqV T d) T xs.toList ys.toList fs = some q → ((if (!p) = true then pure false else Op.eqFields d xs ys fs : Sem Bool)).run P w = .ok (p && q) w := by
              intro q hq
              have hr := run_eqF hT ih fs q hq
              cases p
              · simp
              · simpa using hr
            cases fs with
            | nil =>
              simp only [Option.some.injEq] at h
              subst h
              have := hrest true rfl
              simpa using this
            | cons g gs =>
              simp only [Option.map_eq_some_iff] at h
              obtain ⟨q, hq, rfl⟩ := h
              exact hrest q hq
        · cases h
      · cases h

theorem run_eqI {d e : Nat} {ti : TI} {xs ys : Array Value} {w : World} (hT : TabOK P T) (hti : T.get e = some ti) (ih : ∀ x y r, eqV T d e x y = some r → (Op.equalIn d e x y).run P w = .ok r w) :
    ∀ (is : List Nat) (r : Bool), eqI (eqV T d e) ti xs.toList ys.toList is = some r → (Op.eqItems d e ti.size xs ys is).run P w = .ok r w
  | [], r, h => by
    simp only [eqI, Option.some.injEq] at h
    subst h
    rfl
  | i :: is, r, h => by
    simp only [eqI] at h
    split at h
    · rename_i a b ha hb
      have pa := run_part (w := w) hT hti ha
      have pb := run_part (w := w) hT hti hb
      cases hE : eqV T d e a b with
      | none => rw [hE] at h; cases is <;> cases h
      | some p =>
        rw [hE] at h
        have he := ih _ _ _ hE
        rw [Op.eqItems]
        simp only [Sem.run_bind, pa, pb, he, Result.andThen_ok]
        have hrest : ∀ q, eqI (eqV T d e) ti xs.toList ys.toList is = some q → ((if (!p) = true then pure false else Op.eqItems d e ti.size xs ys is : Sem Bool)).run P w = .ok (p && q) w := by
          intro q hq
          have hr := run_eqI hT hti ih is q hq
          cases p
          · simp
          · simpa using hr
        cases is with
        | nil =>
          simp only [Option.some.injEq] at h
          subst h
          have := hrest true rfl
          simpa using this
        | cons g gs =>
          simp only [Option.map_eq_some_iff] at h
          obtain ⟨q, hq, rfl⟩ := h
          exact hrest q hq
    · cases h

theorem run_eqV (hT : TabOK P T) (hSt : StOK P T) {w : World} : ∀ (d t : Nat) (x y : Value) (r : Bool), eqV T d t x y = some r → (Op.equalIn d t x y).run P w = .ok r w
  | 0, _, _, _, _, h => by cases h
  | d + 1, t, x, y, r, h => by
    simp only [eqV] at h
    split at h
    · rename_i ht
      split at h
      · rename_i k a k' b
        by_cases hk : k = k'
        · subst hk
          rw [if_pos rfl] at h
          simp only [Option.some.injEq] at h
          subst h
          exact run_equalIn_int w d t k _ a b (hT.spec ht).2
        · rw [if_neg hk] at h; cases h
      · cases h
    · rename_i ht
      split at h
      · simp only [Option.some.injEq] at h
        subst h
        exact run_equalIn_bool' w d t _ _ (hT.spec ht).2
      · cases h
    · rename_i ht
      split at h
      · simp only [Option.some.injEq] at h
        subst h
        exact run_equalIn_string w d t _ _ (hT.spec ht).2
      · cases h
    · rename_i fs ht
      split at h
      · have hu := (hT.spec ht).2
        have hf : P.fieldsOf t = fs := by simp [Program.fieldsOf, hu]
        rw [run_equalIn_struct w d t _ _ (by rw [hf]; exact hu) (hSt _ _ ht rfl).1, hf]
        exact run_eqF hT (run_eqV hT hSt d) fs.toList r h
      · cases h
    · rename_i m e ht
      split at h
      · rename_i ti hti
        split at h
        · obtain ⟨i, hi, hs, _⟩ := (hT.spec hti).1
          have hc : P.cellsOf e = ti.size := by simp [Program.cellsOf, hi, hs]
          rw [run_equalIn_array w d _ _ (hT.spec ht).2 hi, hc]
          exact run_eqI hT hti (run_eqV hT hSt d e) _ r h
        · cases h
      · cases h
    · cases h

def eqAt (T : Tab) (n : Nat) (ops : Array Oper) (i d : Nat) (ks : List Nat) (st : St) : Option St :=
  match ops[i]? with
  | none => none
  | some o => bif okDst n o.dst then
    match wantedV ops st.m o, o.op with
    | some true, .binOp .eql t x y _ => match ev st.m x, ev st.m y with
      | some (.agg xs), some (.agg ys) => (eqV T d t (.agg xs) (.agg ys)).map fun r => ⟨only ks (put st.m o.dst (.bool r)), st.l⟩
      | _, _ => none
    | some true, .binOp .neq t x y _ => match ev st.m x, ev st.m y with
      | some (.agg xs), some (.agg ys) => (eqV T d t (.agg xs) (.agg ys)).map fun r => ⟨only ks (put st.m o.dst (.bool (!r))), st.l⟩
      | _, _ => none
    | _, _ => none
    else none

theorem eqV_mono {T : Tab} : ∀ (d t : Nat) (x y : Value) (r : Bool), eqV T d t x y = some r → eqV T (d + 1) t x y = some r := by
  have hF : ∀ (E E' : Nat → Value → Value → Option Bool) (xs ys : List Value), (∀ t x y r, E t x y = some r → E' t x y = some r) → ∀ (fs : List Field) (r : Bool), eqF E T xs ys fs = some r → eqF E' T xs ys fs = some r := by
    intro E E' xs ys hE fs
    induction fs with
    | nil => intro r h; exact h
    | cons f fs ih =>
      intro r h
      simp only [eqF] at h ⊢
      cases hn : f.name == "_" <;> rw [hn] at h
      · simp only [cond_false] at h ⊢
        split at h
        · rename_i ti hti
          split at h
          · rename_i a b ha hb
            cases he : E f.type a b with
            | none => rw [he] at h; cases fs <;> cases h
            | some p =>
              rw [he] at h
              simp only [hE _ _ _ _ he]
              cases fs with
              | nil => exact h
              | cons g gs =>
                simp only [Option.map_eq_some_iff] at h ⊢
                obtain ⟨q, hq, hqr⟩ := h
                exact ⟨q, ih q hq, hqr⟩
          · cases h
        · cases h
      · cases h
  have hI : ∀ (E E' : Value → Value → Option Bool) (ti : TI) (xs ys : List Value), (∀ x y r, E x y = some r → E' x y = some r) → ∀ (is : List Nat) (r : Bool), eqI E ti xs ys is = some r → eqI E' ti xs ys is = some r := by
    intro E E' ti xs ys hE is
    induction is with
    | nil => intro r h; exact h
    | cons f fs ih =>
      intro r h
      simp only [eqI] at h ⊢
      split at h
      · rename_i a b ha hb
        cases he : E a b with
        | none => rw [he] at h; cases fs <;> cases h
        | some p =>
          rw [he] at h
          simp only [hE _ _ _ he]
          cases fs with
          | nil => exact h
          | cons g gs =>
            simp only [Option.map_eq_some_iff] at h ⊢
            obtain ⟨q, hq, hqr⟩ := h
            exact ⟨q, ih q hq, hqr⟩
      · cases h
  intro d
  induction d with
  | zero => intro t x y r h; cases h
  | succ d ih =>
    intro t x y r h
    simp only [eqV] at h ⊢
    split at h
    · exact h
    · exact h
    · exact h
    · split at h
      · exact hF _ _ _ _ (fun t x y r h => ih t x y r h) _ _ h
      · cases h
    · split at h
      · rename_i hti
        simp only [hti]
        split at h
        · have h2 := hI _ _ _ _ _ (fun x y r h => ih _ x y r h) _ _ h
          simp only [eqV, hti] at h2
          exact h2
        · cases h
      · cases h
    · cases h

theorem eqV_le {T : Tab} {d d' t : Nat} {x y : Value} {r : Bool} (h : eqV T d t x y = some r) (hd : d ≤ d') : eqV T d' t x y = some r := by
  induction hd with
  | refl => exact h
  | step _ ih => exact eqV_mono _ _ _ _ _ ih

theorem eqV_guard (hSt : StOK P T) {d t : Nat} {xs ys : Array Value} {r : Bool} (h : eqV T d t (.agg xs) (.agg ys) = some r) : P.eqGuardType P.depth t = false := by
  cases d with
  | zero => cases h
  | succ d =>
    simp only [eqV] at h
    split at h
    · cases h
    · cases h
    · cases h
    · rename_i ht; exact (hSt _ _ ht rfl).2
    · rename_i ht; exact (hSt _ _ ht rfl).2
    · cases h

theorem Does_eq (hT : TabOK P T) (hSt : StOK P T) {i : Nat} (d : Nat) (ks : List Nat) (st' : St) (hd : Nat.ble d 10000 = true) (he : eqAt T n ops i d ks st = some st') :
    Does P n ops Q X S0 w0 i S wr st fun S' wr' st1 => S' = S ∧ wr' = wr ∧ st1 = st' := by
  intro a wa K hA hI hK
  have hd' := Nat.le_of_ble_eq_true hd
  unfold eqAt at he
  cases hi : ops[i]? with
  | none => rw [hi] at he; cases he
  | some o =>
    rw [hi] at he
    simp only at he
    by_cases hdst : okDst n o.dst = true
    · rw [hdst] at he
      simp only [cond_true] at he
      obtain ⟨dst, op, type, pos, after, guard⟩ := o
      split at he
      · rename_i t x y q hw hop
        simp only at hop
        subst hop
        split at he
        · rename_i xs ys hx hy
          simp only [Option.map_eq_some_iff] at he
          obtain ⟨r, hr, rfl⟩ := he
          unfold wpOp
          rw [hi]
          simp only
          rw [wantedV_spec hA hw]
          simp only [if_true]
          refine .inl ?_
          have h1 := run_eqV (w := wa) hT hSt 10000 t _ _ _ (eqV_le hr hd')
          unfold Oper.wp
          simp only [execOp, ev_eval hA hx, ev_eval hA hy, Sem.run_bind]
          have hg : (eqGuard .eql t x y (.agg xs) (.agg ys)).run P wa = .ok () wa := by simp [eqGuard, eqV_guard hSt hr]
          simp only [hg, Result.andThen_ok, run_eql_struct, h1, Sem.run_pure, Oper.upon]
          exact hK S wr _ ⟨rfl, rfl, rfl⟩ _ _ ((hA.put (okDst_spec hdst)).only ks) hI
        · cases he
      · rename_i t x y q hw hop
        simp only at hop
        subst hop
        split at he
        · rename_i xs ys hx hy
          simp only [Option.map_eq_some_iff] at he
          obtain ⟨r, hr, rfl⟩ := he
          unfold wpOp
          rw [hi]
          simp only
          rw [wantedV_spec hA hw]
          simp only [if_true]
          refine .inl ?_
          have h1 := run_eqV (w := wa) hT hSt 10000 t _ _ _ (eqV_le hr hd')
          unfold Oper.wp
          simp only [execOp, ev_eval hA hx, ev_eval hA hy, Sem.run_bind]
          have hg : (eqGuard .neq t x y (.agg xs) (.agg ys)).run P wa = .ok () wa := by simp [eqGuard, eqV_guard hSt hr]
          simp only [hg, Result.andThen_ok, run_neq_struct, h1, Sem.run_pure, Oper.upon]
          exact hK S wr _ ⟨rfl, rfl, rfl⟩ _ _ ((hA.put (okDst_spec hdst)).only ks) hI
        · cases he
      · cases he
    · rw [Bool.not_eq_true] at hdst
      rw [hdst] at he; cases he

theorem RV_eq (hT : TabOK P T) (hSt : StOK P T) {c k : Nat} (d : Nat) (ks : List Nat) (st' : St) (hd : Nat.ble d 10000 = true) (he : eqAt T n ops k d ks st = some st')
    (h : RV P n ops Q X S0 w0 c (k + 1) S wr st') : RV P n ops Q X S0 w0 (c + 1) k S wr st :=
  RV_does (Does_eq hT hSt d ks st' hd he) fun S' wr' st1 ⟨h1, h2, h3⟩ => by subst h1 h2 h3; exact h

theorem RVd_eq {lw : List LB} {Sr : Nat → Prop} {wrr : World} {fuel : Nat} {L : Array Bool} (hT : TabOK P T) (hSt : StOK P T) (i d : Nat) (ks iw : List Nat) (L' : Array Bool) (st' : St) (hr : Region.ready .any ops L = [i]) (hL : L.setIfInBounds i true = L')
    (hd : Nat.ble d 10000 = true) (he : eqAt T n ops i d ks st = some st') (hw : pickL st'.l iw = lw)
    (hk : RVd P n ops Q X S0 w0 lw Sr wrr fuel L' S wr st') : RVd P n ops Q X S0 w0 lw Sr wrr (fuel + 1) L S wr st :=
  RVd_one i hr hL (Does_eq hT hSt d ks st' hd he) fun S' wr' st1 ⟨h1, h2, h3⟩ => by subst h1 h2 h3; exact ⟨Ext.refl _ _, mem_of_pick hw, hk⟩

end
end Eng
end Go.YtmfkmoecbnghhaaDoor
