/- What is forgotten where the last own blocks have but a name; appends at the end; an element of a slice of which it is known where it lies. -/
import Derived.Test.YtmfkmoecbnghhaaDoorEngJ
namespace Go.YtmfkmoecbnghhaaDoor
namespace Eng

section
variable {P : Program} {T : Tab} {n : NN} {ops : Array Oper} {Q : Exit → Act → World → Prop} {X S0 : Nat → Prop} {w0 : World} {S : Nat → Prop} {wr : World} {st : St} {K : Exit → Act → World → Prop}

theorem VC_keep {c : Code} (ks is : List Nat) (k : Nat) (st' : St) (hm : (⟨only ks st.m, keepL st.l is k⟩ : St) = st') (hs : okKeep is k = true) (h : VC P n c K X S0 w0 S wr st') : VC P n c K X S0 w0 S wr st := by
  subst hm
  exact fun a wa hA hI => h a wa (hA.only ks) (hI.fewer (keepL_sublist hs))

theorem KE_keep {e : Exit} (ks is : List Nat) (k : Nat) (st' : St) (hm : (⟨only ks st.m, keepL st.l is k⟩ : St) = st') (hs : okKeep is k = true) (h : KE n e K X S0 w0 S wr st') : KE n e K X S0 w0 S wr st := by
  subst hm
  exact fun a wa hA hI => h a wa (hA.only ks) (hI.fewer (keepL_sublist hs))

theorem KE_rnd {J : Nat → (Nat → Prop) → World → St → Prop} {m : Nat} (m' : Nat) (ks is : List Nat) (k : Nat) (st' : St) (hm : (⟨only ks st.m, keepL st.l is k⟩ : St) = st') (hs : okKeep is k = true) (hlt : m' < m) (hJ : J m' S wr st') :
    KE n .normal (Exit.then (LoopK n X S0 w0 J m) K) X S0 w0 S wr st := by
  subst hm
  intro a wa hA hI
  exact ⟨m', hlt, S, wr, _, hJ, hA.only ks, hI.fewer (keepL_sublist hs)⟩

theorem RV_append1 (hT : TabOK P T) {c k t e : Nat} {ti : TI} {by' : Nat} {v x : Sl} {xs news : List Value} {dst : Option Nat} (pre tl : List LB)
    (he : appAt T n ops k st.m = some (t, e, ti, v, x, dst)) (hl : st.l = pre ++ tl)
    (hby : (P.info? e).map (·.bytes) = some by') (hz : (Nat.beq (cellsL ti.zero).length ti.size && Nat.blt 0 ti.size) = true) (hrow : RowOK e ti.size v xs tl) (hsrc : ∀ wa, Inv X S0 w0 S wr st.l wa → SrcIs wa ti.size x news) (hc : news.all isCell = true)
    (h63 : v.n + x.n ≤ maxLen) (hb : (v.n + x.n) * by' ≤ 140737488355328)
    (h : ∀ a' c' tl', RowOK e ti.size ⟨a', v.n + x.n, c'⟩ (xs ++ news) tl' → RV P n ops Q X S0 w0 c (k + 1) S wr ⟨put st.m dst (.slice a' (v.n + x.n) c'), pre ++ tl'⟩) : RV P n ops Q X S0 w0 (c + 1) k S wr st :=
  RV_append hT pre tl [] he (by rw [hl, List.append_nil]) hby hz hrow hsrc hc h63 hb fun a' c' tl' hr => by
    have := h a' c' tl' hr
    rwa [List.append_nil]

theorem VC_freeze1 {c : Code} {e : Nat} {v : Sl} {xs : List Value} {size : Nat} (pre tl : List LB) (hl : st.l = pre ++ tl) (hrow : RowOK e size v xs tl) (hm : ∀ lb ∈ tl, ¬ X lb.id)
    (h : ∀ S1 w1, Ext S wr S1 w1 → (∀ {α : Type} (E : Enc α) (ys : List α), E.n = size → v.n = ys.length → Reads E S1 w1 xs ys → RSl E S1 w1 v ys) → VC P n c K X S0 w0 S1 w1 ⟨st.m, pre⟩) : VC P n c K X S0 w0 S wr st :=
  VC_freezeRow pre tl [] (by rw [hl, List.append_nil]) hrow hm fun S1 w1 hx hr => by
    have := h S1 w1 hx hr
    rwa [List.append_nil]

theorem KE_freeze1 {x : Exit} {e : Nat} {v : Sl} {xs : List Value} {size : Nat} (pre tl : List LB) (hl : st.l = pre ++ tl) (hrow : RowOK e size v xs tl) (hm : ∀ lb ∈ tl, ¬ X lb.id)
    (h : ∀ S1 w1, Ext S wr S1 w1 → (∀ {α : Type} (E : Enc α) (ys : List α), E.n = size → v.n = ys.length → Reads E S1 w1 xs ys → RSl E S1 w1 v ys) → KE n x K X S0 w0 S1 w1 ⟨st.m, pre⟩) : KE n x K X S0 w0 S wr st :=
  KE_freezeRow pre tl [] (by rw [hl, List.append_nil]) hrow hm fun S1 w1 hx hr => by
    have := h S1 w1 hx hr
    rwa [List.append_nil]

theorem RSl.here {α : Type} {E : Enc α} {w : World} {x : Sl} {xs : List α} (h : RSl E S w x xs) {b o : Nat} (ha : x.a = some ⟨b, o, none⟩) (i : Nat) (hi : i < xs.length) :
    ∃ vs, ROS [⟨b, o + i * E.n, vs⟩] S w ∧ E.rep S w vs xs[i] := by
  obtain ⟨b', o', vs, h1, h2, h3⟩ := h.at i hi
  rw [ha] at h1
  simp only [Option.some.injEq, Addr.mk.injEq, and_true] at h1
  obtain ⟨rfl, rfl⟩ := h1
  exact ⟨vs, h2, h3⟩

end
end Eng
end Go.YtmfkmoecbnghhaaDoor
