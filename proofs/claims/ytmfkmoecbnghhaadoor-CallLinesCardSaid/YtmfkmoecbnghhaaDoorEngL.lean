/- The greater of two; a string out of a byte; strings as rows of bytes. -/
import Derived.Test.YtmfkmoecbnghhaaDoorEngK
import Derived.Laws.BytesString
namespace Go.YtmfkmoecbnghhaaDoor
namespace Eng

def B (l : List UInt8) : ByteArray := ⟨l.toArray⟩

theorem B_size (l : List UInt8) : (B l).size = l.length := rfl
theorem B_bytes (l : List UInt8) : (B l).data.toList = l := rfl
theorem B_of (s : ByteArray) : B s.data.toList = s := rfl
theorem B_app (a b : List UInt8) : B a ++ B b = B (a ++ b) := by
  apply ByteArray.ext
  rw [ByteArray.data_append]
  simp [B]
theorem B_ext (l : List UInt8) (i j : Nat) : (B l).extract i j = B ((l.take j).drop i) := by
  apply ByteArray.ext
  rw [ByteArray.data_extract]
  simp [B, List.extract_eq_take_drop, List.drop_take]
theorem B_ext0 (l : List UInt8) (j : Nat) : (B l).extract 0 j = B (l.take j) := by rw [B_ext]; simp
theorem B_drop (l : List UInt8) (i : Nat) : (B l).extract i l.length = B (l.drop i) := by rw [B_ext]; simp
theorem B_toList (l : List UInt8) : (B l).toList = l := by rw [ByteArray.toList_eq]; rfl
theorem B_inj {a b : List UInt8} : B a = B b ↔ a = b := by
  constructor
  · intro h
    have := congrArg (fun s : ByteArray => s.data.toList) h
    exact this
  · exact congrArg B
theorem B_eq {a b : List UInt8} (h : ((B a).toList == (B b).toList) = true) : a = b := by simpa [B_toList] using h
theorem B_ne {a b : List UInt8} (h : ((B a).toList == (B b).toList) = false) : a ≠ b := by simpa [B_toList] using h

section
variable {P : Program} {T : Tab} {n : NN} {ops : Array Oper} {Q : Exit → Act → World → Prop} {X S0 : Nat → Prop} {w0 : World} {S : Nat → Prop} {wr : World} {st : St} {K : Exit → Act → World → Prop}

def valAt (n : Nat) (ops : Array Oper) (i : Nat) (f : Mp → Op → Option (Value × List Nat × List Nat)) (ks : List Nat) (st : St) : Option (St × List Nat × List Nat) :=
  match ops[i]? with
  | none => none
  | some o => bif okDst n o.dst then
    match wantedV ops st.m o with
    | some true => (f st.m o.op).map fun v => (⟨only ks (put st.m o.dst v.1), st.l⟩, v.2)
    | _ => none
    else none

theorem Does_val {i : Nat} (f : Mp → Op → Option (Value × List Nat × List Nat)) (xs : List Nat) (ks : List Nat) (st' : St) (he : valAt n ops i f ks st = some (st', xs, xs))
    (hf : ∀ (o : Oper) (v : Value) a wa, f st.m o.op = some (v, xs, xs) → Agree n a st.m → Inv X S0 w0 S wr st.l wa → (execOp a.eval o).run P wa = .ok (.value v) wa) :
    Does P n ops Q X S0 w0 i S wr st fun S' wr' st1 => S' = S ∧ wr' = wr ∧ st1 = st' := by
  intro a wa K hA hI hK
  unfold valAt at he
  cases hi : ops[i]? with
  | none => rw [hi] at he; cases he
  | some o =>
    rw [hi] at he
    simp only at he
    by_cases hd : okDst n o.dst = true
    · rw [hd] at he
      simp only [cond_true] at he
      split at he
      · rename_i hw
        simp only [Option.map_eq_some_iff] at he
        obtain ⟨⟨v, y1, y2⟩, hv, he⟩ := he
        simp only [Prod.mk.injEq] at he
        obtain ⟨rfl, rfl, rfl⟩ := he
        unfold wpOp
        rw [hi]
        simp only
        rw [wantedV_spec hA hw]
        simp only [if_true]
        refine .inl ?_
        unfold Oper.wp
        rw [hf o v a wa hv hA hI]
        simp only [Oper.upon]
        exact hK S wr _ ⟨rfl, rfl, rfl⟩ _ _ ((hA.put (okDst_spec hd)).only ks) hI
      · cases he
    · rw [Bool.not_eq_true] at hd
      rw [hd] at he; cases he

theorem RV_val {c k : Nat} (f : Mp → Op → Option (Value × List Nat × List Nat)) (xs : List Nat) (ks : List Nat) (st' : St) (he : valAt n ops k f ks st = some (st', xs, xs))
    (hf : ∀ (o : Oper) (v : Value) a wa, f st.m o.op = some (v, xs, xs) → Agree n a st.m → Inv X S0 w0 S wr st.l wa → (execOp a.eval o).run P wa = .ok (.value v) wa)
    (h : RV P n ops Q X S0 w0 c (k + 1) S wr st') : RV P n ops Q X S0 w0 (c + 1) k S wr st :=
  RV_does (Does_val f xs ks st' he hf) fun S' wr' st1 ⟨h1, h2, h3⟩ => by subst h1 h2 h3; exact h

theorem RVd_val {lw : List LB} {Sr : Nat → Prop} {wrr : World} {fuel : Nat} {L : Array Bool} (i : Nat) (f : Mp → Op → Option (Value × List Nat × List Nat)) (xs : List Nat) (ks iw : List Nat) (L' : Array Bool) (st' : St) (hr : Region.ready .any ops L = [i]) (hL : L.setIfInBounds i true = L')
    (he : valAt n ops i f ks st = some (st', xs, xs)) (hw : pickL st'.l iw = lw)
    (hf : ∀ (o : Oper) (v : Value) a wa, f st.m o.op = some (v, xs, xs) → Agree n a st.m → Inv X S0 w0 S wr st.l wa → (execOp a.eval o).run P wa = .ok (.value v) wa)
    (hk : RVd P n ops Q X S0 w0 lw Sr wrr fuel L' S wr st') : RVd P n ops Q X S0 w0 lw Sr wrr (fuel + 1) L S wr st :=
  RVd_one i hr hL (Does_val f xs ks st' he hf) fun S' wr' st1 ⟨h1, h2, h3⟩ => by subst h1 h2 h3; exact ⟨Ext.refl _ _, mem_of_pick hw, hk⟩

def isMax : Callee → Bool
  | .builtin .max => true
  | _ => false

def maxV (m : Mp) (o : Op) : Option (Value × List Nat × List Nat) :=
  match o with
  | .call c => bif isMax c.callee then
      match c.args.toList with
      | [x, y] => match ev m x, ev m y with
        | some (.int k a), some (.int _ b) => some (.int k (if b > a then b else a), [], [])
        | _, _ => none
      | _ => none
      else none
  | _ => none

theorem run_max {o : Oper} {v : Value} {a : Act} {wa : World} {m : Mp} (h : maxV m o.op = some (v, [], [])) (hA : Agree n a m) : (execOp a.eval o).run P wa = .ok (.value v) wa := by
  obtain ⟨dst, op, type, pos, after, guard⟩ := o
  simp only at h
  cases op <;> simp only [maxV, reduceCtorEq] at h
  rename_i c
  obtain ⟨callee, args, tys⟩ := c
  simp only at h
  cases hc : isMax callee
  · rw [hc] at h; cases h
  · rw [hc] at h
    have hcal : callee = .builtin .max := by
      cases callee <;> simp [isMax] at hc
      rename_i b
      cases b <;> simp at hc
      rfl
    subst hcal
    simp only [cond_true] at h
    split at h
    · rename_i x y hxy
      split at h
      · rename_i k p k' q hx hy
        simp only [Option.some.injEq, Prod.mk.injEq] at h
        obtain ⟨rfl, _⟩ := h
        have e1 : args = #[x, y] := Array.ext' (by simpa using hxy)
        subst e1
        simp [execOp, resolve, invoke, builtin, Builtin.max_, Builtin.max2, ev_eval hA hx, ev_eval hA hy]
      · cases h
    · cases h

/-- A string out of one byte that lies in a block of one's own. -/
def chrV (T : Tab) (l : List LB) (h : Nat) (m : Mp) (o : Op) : Option (Value × List Nat × List Nat) :=
  match o with
  | .convert s t x => match T.get s, T.get t, ev m x, l[h]? with
    | some ⟨_, _, .slice e⟩, some ⟨_, _, .string⟩, some (.slice (some ⟨b, 0, none⟩) 1 _), some ⟨b', _, [.int .u8 v]⟩ => match T.get e with
      | some ⟨_, _, .int .u8⟩ => some (.string (B [UInt8.ofNat v.toNat]), [b], [b'])
      | _ => none
    | _, _, _, _ => none
  | _ => none

theorem run_chr (hT : TabOK P T) {l : List LB} {h : Nat} {o : Oper} {v : Value} {a : Act} {wa : World} {m : Mp} {xs : List Nat} (hv : chrV T l h m o.op = some (v, xs, xs)) (hA : Agree n a m) (hl : OwnL l wa) : (execOp a.eval o).run P wa = .ok (.value v) wa := by
  obtain ⟨dst, op, type, pos, after, guard⟩ := o
  simp only at hv
  cases op <;> simp only [chrV, reduceCtorEq] at hv
  rename_i s t x
  split at hv
  · rename_i e1 e2 b cp b' ty u hs ht hx hlb
    split at hv
    · rename_i hte
      · simp only [Option.some.injEq, Prod.mk.injEq] at hv
        obtain ⟨rfl, h1, h2⟩ := hv
        have hbb : b = b' := by rw [← h1] at h2; simpa using h2.symm
        subst hbb
        have hb := hl _ (List.mem_of_getElem? hlb)
        have hc : (loadCells ⟨b, 0, none⟩ 1).run P wa = .ok #[Value.int .u8 u] wa := by
          refine run_loadCells (P := P) [Value.int .u8 u] fun k hk => ?_
          have : k = 0 := by simpa using hk
          subst this
          rw [cell_of hb]
          rfl
        have h3 : (Conv.bytesToString (.slice (some ⟨b, 0, none⟩) 1 cp)).run P wa = .ok (.string (B [UInt8.ofNat u.toNat])) wa := by
          simp only [Conv.bytesToString, Sem.run_bind, hc, Result.andThen_ok]
          simp [B]
          rfl
        simp only [execOp, ev_eval hA hx, convert, Sem.run_bind, run_und (w := wa) hT hs, run_und (w := wa) hT ht, run_und (w := wa) hT hte, Result.andThen_ok, h3, Sem.run_pure]
    · cases hv
  · cases hv

end
end Eng
end Go.YtmfkmoecbnghhaaDoor
