/- Regions that draw their order: what only reads is taken first; the rest comes as the edges let it. Ways that meet. -/
import Derived.Test.YtmfkmoecbnghhaaDoorEngF
namespace Go.YtmfkmoecbnghhaaDoor
namespace Eng

section
variable {P : Program} {T : Tab} {n : NN} {ops : Array Oper} {Q : Exit → Act → World → Prop} {X S0 : Nat → Prop} {w0 : World} {S : Nat → Prop} {wr : World} {st : St} {K : Exit → Act → World → Prop}

/-- What holds of the world all through a region that draws: the blocks lw are as told; what nobody writes any more is as it was at the region's begin. -/
def Hold (lw : List LB) (Sr : Nat → Prop) (wrr : World) (wa : World) : Prop := OwnL lw wa ∧ ∀ b, Sr b → wa.heap[b]? = wrr.heap[b]?

def RVd (P : Program) (n : NN) (ops : Array Oper) (Q : Exit → Act → World → Prop) (X S0 : Nat → Prop) (w0 : World) (lw : List LB) (Sr : Nat → Prop) (wrr : World) (fuel : Nat) (listed : Array Bool) (S : Nat → Prop) (wr : World) (st : St) : Prop :=
  Ext Sr wrr S wr → ∀ a wa, Agree n a st.m → Inv X S0 w0 S wr st.l wa → wpAnyH P .any ops Q (Hold lw Sr wrr) fuel listed a wa

/-- What stands, or lies in a block of one's own. -/
def ROL (ro : List RB) (S : Nat → Prop) (w : World) (l : List LB) : Prop :=
  ∀ rb ∈ ro, (S rb.b ∧ ∀ k (hk : k < rb.cells.length), w.cell? ⟨rb.b, rb.o + k, none⟩ = some rb.cells[k]) ∨ ∃ lb ∈ l, lb.id = rb.b ∧ ∀ k (hk : k < rb.cells.length), lb.cells[rb.o + k]? = some rb.cells[k]

theorem ROL.ok {ro : List RB} {wa : World} {l : List LB} (h : ROL ro S wr l) (hx : ∀ b, S b → wa.heap[b]? = wr.heap[b]?) (hl : OwnL l wa) : ROK ro wa := fun rb hr k hk => by
  rcases h rb hr with ⟨h1, h2⟩ | ⟨lb, h1, h2, h3⟩
  · rw [cell_same (hx _ h1)]; exact h2 k hk
  · rw [← h2, cell_of (hl lb h1)]
    simpa using h3 k hk

theorem ROL_nil {l : List LB} : ROL [] S wr l := fun _ h => (List.not_mem_nil h).elim

theorem ROL_std {rb : RB} {ro : List RB} {l : List LB} (h : ROS [rb] S wr) (k : ROL ro S wr l) : ROL (rb :: ro) S wr l := fun r hr => by
  rcases List.mem_cons.1 hr with rfl | hr
  · exact .inl ⟨h.1 r (by simp), fun k hk => h.2 r (by simp) k hk⟩
  · exact k r hr

theorem ROL_own {ro : List RB} {l : List LB} {cs : List Value} {o : Nat} (lb : LB) (hm : lb ∈ l) (h : (lb.cells.drop o).take cs.length = cs) (k : ROL ro S wr l) : ROL (⟨lb.id, o, cs⟩ :: ro) S wr l := fun r hr => by
  rcases List.mem_cons.1 hr with rfl | hr
  · refine .inr ⟨lb, hm, rfl, fun k hk => ?_⟩
    simp only at hk ⊢
    have h1 : cs[k]? = some cs[k] := List.getElem?_eq_getElem hk
    rw [← h1]
    conv => rhs; rw [← h]
    rw [List.getElem?_take, if_pos hk, List.getElem?_drop]
  · exact k r hr

def takeOk (ops : Array Oper) (L : Array Bool) (i : Nat) : Bool :=
  Region.free .any ops L i && (Region.ready .any ops L).contains i

structure Tak where
  L : Array Bool
  m : Mp
  xs : List Nat
  ys : List Nat
  cs : List Cond

def takeOps (T : Tab) (n : Nat) (ops : Array Oper) (lw : List LB) (ro : List RB) : List (Nat × Nat) → Array Bool → Mp → Option Tak
  | [], L, m => some ⟨L, m, [], [], []⟩
  | (i, h) :: r, L, m =>
    match ops[i]? with
    | none => none
    | some o => bif okDst n o.dst && takeOk ops L i && !isStore o.op then
      match wantedV ops m o with
      | some false => takeOps T n ops lw ro r (L.setIfInBounds i true) (put m o.dst undef)
      | some true => match evStill T m lw ro o.op h with
        | some ⟨v, xs, ys, cs⟩ => match takeOps T n ops lw ro r (L.setIfInBounds i true) (put m o.dst v) with
          | some ⟨L', m', xs', ys', cs'⟩ => some ⟨L', m', xs ++ xs', ys ++ ys', cs ++ cs'⟩
          | none => none
        | none => none
      | none => none
      else none

/-- A panic is let by whatever a slot holds. -/
class PanicOK (Q : Exit → Act → World → Prop) : Prop where
  put : ∀ (d : Option Nat) (v : Value) c a w, Q (.panic c) (a.put d v) w → Q (.panic c) a w

instance {P : Program} {fn : Func} {R : Ending → World → Prop} : PanicOK (bodyPost P fn R) := ⟨fun d v c a w h => panic_put (fn := fn) (R := R) d v c a w h⟩
instance {nx : Act → World → Prop} {K : Exit → Act → World → Prop} [h : PanicOK K] : PanicOK (Exit.then nx K) := ⟨fun d v c a w k => h.put d v c a w k⟩
instance {id : Nat} {K : Exit → Act → World → Prop} [h : PanicOK K] : PanicOK (Exit.inBlock id K) := ⟨fun d v c a w k => h.put d v c a w k⟩

theorem takeOps_sound [hB : PanicOK Q] (hT : TabOK P T) (hs : Region.noSelect ops = true) {lw : List LB} {ro : List RB} {Sr : Nat → Prop} {wrr : World} (hro : ROL ro Sr wrr lw) :
    ∀ (is : List (Nat × Nat)) (L : Array Bool) (m : Mp) (L' : Array Bool) (m' : Mp) (xs ys : List Nat) (cs : List Cond),
    takeOps T n ops lw ro is L m = some ⟨L', m', xs, ys, cs⟩ → xs = ys → Conds cs → ∀ {a : Act} {wa : World} {fuel : Nat}, Agree n a m → Hold lw Sr wrr wa →
    (∀ a', Agree n a' m' → wpAnyH P .any ops Q (Hold lw Sr wrr) fuel L' a' wa) → wpAnyH P .any ops Q (Hold lw Sr wrr) (is.length + fuel) L a wa := by
  intro is
  induction is with
  | nil =>
    intro L m L' m' xs ys cs h _ _ a wa fuel hA _ hk
    simp only [takeOps, Option.some.injEq, Tak.mk.injEq] at h
    obtain ⟨rfl, rfl, _⟩ := h
    simpa using hk a hA
  | cons p r ih =>
    obtain ⟨i, hh⟩ := p
    intro L m L' m' xs ys cs h hxy hcs a wa fuel hA hO hk
    simp only [takeOps] at h
    cases hi : ops[i]? with
    | none => rw [hi] at h; cases h
    | some o =>
      rw [hi] at h
      simp only at h
      by_cases hc : (okDst n o.dst && takeOk ops L i && !isStore o.op) = true
      · rw [hc] at h
        simp only [cond_true] at h
        simp only [Bool.and_eq_true, takeOk] at hc
        obtain ⟨⟨hd, hfree, hready⟩, _⟩ := hc
        have e1 : ((i, hh) :: r).length + fuel = (r.length + fuel) + 1 := by simp; omega
        rw [e1]
        split at h
        · rename_i hw
          refine wpAnyH_take (v := undef) hi hs hfree hready (hB.put o.dst undef) (.inr ⟨wantedV_spec hA hw, rfl⟩) hO ?_
          exact ih _ _ _ _ _ _ _ h hxy hcs (hA.put (okDst_spec hd)) hO hk
        · rename_i hw
          split at h
          · rename_i v x1 y1 c1 hev
            split at h
            · rename_i L2 m2 x2 y2 c2 hrec
              simp only [Option.some.injEq, Tak.mk.injEq] at h
              obtain ⟨rfl, rfl, rfl, rfl, rfl⟩ := h
              obtain ⟨rfl, rfl⟩ := List.append_inj hxy (evStill_len hev)
              have hc2 := hcs.app
              refine wpAnyH_take (v := v) hi hs hfree hready (hB.put o.dst v) (.inl ⟨wantedV_spec hA hw, fun w hw' => evStill_sound hT hA hw'.1 (hro.ok hw'.2 hw'.1) hev hc2.1⟩) hO ?_
              exact ih _ _ _ _ _ _ _ hrec rfl hc2.2 (hA.put (okDst_spec hd)) hO hk
            · cases h
          · cases h
        · cases h
      · rw [Bool.not_eq_true] at hc
        rw [hc] at h; cases h

theorem Inv.hold {lw : List LB} {l : List LB} {wa : World} {Sr : Nat → Prop} {wrr : World} {iw : List Nat} (hI : Inv X S0 w0 S wr l wa) (hw : pickL l iw = lw) (hx : Ext Sr wrr S wr) : Hold lw Sr wrr wa :=
  ⟨fun lb hl => hI.own lb (mem_pickL (hw ▸ hl)), fun b hb => (hI.ref b (hx.sub b hb)).trans (hx.same b hb)⟩

theorem Inv.holdM {lw : List LB} {l : List LB} {wa : World} {Sr : Nat → Prop} {wrr : World} (hI : Inv X S0 w0 S wr l wa) (hw : ∀ lb ∈ lw, lb ∈ l) (hx : Ext Sr wrr S wr) : Hold lw Sr wrr wa :=
  ⟨fun lb hl => hI.own lb (hw lb hl), fun b hb => (hI.ref b (hx.sub b hb)).trans (hx.same b hb)⟩

theorem mem_of_pick {l lw : List LB} {iw : List Nat} (h : pickL l iw = lw) : ∀ lb ∈ lw, lb ∈ l := fun _ hl => mem_pickL (h ▸ hl)

theorem RVd_take [hB : PanicOK Q] (hT : TabOK P T) {lw : List LB} {Sr : Nat → Prop} {wrr : World} {fuel fuel' : Nat} {L : Array Bool} (ro : List RB) (is : List (Nat × Nat)) (ks iw : List Nat) (L' : Array Bool) (m' : Mp) (xs : List Nat) (cs : List Cond)
    (hs : Region.noSelect ops = true) (hw : pickL st.l iw = lw) (he : (takeOps T n ops lw ro is L st.m).map (fun r => ({ r with m := only ks r.m } : Tak)) = some ⟨L', m', xs, xs, cs⟩) (hf : Nat.beq fuel (is.length + fuel') = true)
    (hro : ROL ro Sr wrr lw) (hcs : Conds cs)
    (h : RVd P n ops Q X S0 w0 lw Sr wrr fuel' L' S wr ⟨m', st.l⟩) : RVd P n ops Q X S0 w0 lw Sr wrr fuel L S wr st := by
  intro hx a wa hA hI
  cases hr : takeOps T n ops lw ro is L st.m with
  | none => rw [hr] at he; cases he
  | some p =>
    rw [hr] at he
    obtain ⟨L1, m1, x1, y1, c1⟩ := p
    simp only [Option.map_some, Option.some.injEq, Tak.mk.injEq] at he
    obtain ⟨rfl, rfl, rfl, rfl, rfl⟩ := he
    rw [Nat.eq_of_beq_eq_true hf]
    exact takeOps_sound hT hs hro is L st.m _ _ _ _ _ hr rfl hcs hA (hI.hold hw hx) fun a' hA' => h hx a' wa (hA'.only ks) hI

theorem VC_draw {id : Nat} (hm : P.follows .mixedOrders = true) (lw : List LB) (c : Nat) (hc : ops.size = c) (h : RVd P n ops K X S0 w0 lw S wr c (Array.replicate c false) S wr st) : VC P n (.region id ops true) K X S0 w0 S wr st := by
  subst hc
  intro a wa hA hI
  exact wp_region_held hm (h (Ext.refl S wr) a _ hA hI.drew)

section draws
variable {lw : List LB} {Sr : Nat → Prop} {wrr : World} {L : Array Bool} {fuel : Nat}

theorem RVd_end (hr : Region.ready .any ops L = []) (h : KE n .normal Q X S0 w0 S wr st) : RVd P n ops Q X S0 w0 lw Sr wrr fuel L S wr st :=
  fun _ a wa hA hI => wpAnyH_done hr (h a wa hA hI) fuel

theorem RVd_one {L' : Array Bool} (i : Nat) {N : (Nat → Prop) → World → St → Prop} (hr : Region.ready .any ops L = [i]) (hL : L.setIfInBounds i true = L')
    (hd : Does P n ops Q X S0 w0 i S wr st N) (h : ∀ S' wr' st', N S' wr' st' → Ext S wr S' wr' ∧ (∀ lb ∈ lw, lb ∈ st'.l) ∧ RVd P n ops Q X S0 w0 lw Sr wrr fuel L' S' wr' st') : RVd P n ops Q X S0 w0 lw Sr wrr (fuel + 1) L S wr st := by
  subst hL
  intro hx a wa hA hI
  refine wpAnyH_all hr (by simp) fun j hj => ?_
  simp only [List.mem_singleton] at hj
  subst hj
  refine hd a wa _ hA hI fun S' wr' st' hN a' wa' hA' hI' => ?_
  obtain ⟨hx', hw, h2⟩ := h S' wr' st' hN
  exact ⟨hI'.holdM hw (hx.trans hx'), h2 (hx.trans hx') a' wa' hA' hI'⟩

theorem RVd_two {Li Lj : Array Bool} (i j : Nat) {Ni Nj : (Nat → Prop) → World → St → Prop} (hr : Region.ready .any ops L = [i, j]) (hLi : L.setIfInBounds i true = Li) (hLj : L.setIfInBounds j true = Lj)
    (hdi : Does P n ops Q X S0 w0 i S wr st Ni) (hdj : Does P n ops Q X S0 w0 j S wr st Nj)
    (hi : ∀ S' wr' st', Ni S' wr' st' → Ext S wr S' wr' ∧ (∀ lb ∈ lw, lb ∈ st'.l) ∧ RVd P n ops Q X S0 w0 lw Sr wrr fuel Li S' wr' st')
    (hj : ∀ S' wr' st', Nj S' wr' st' → Ext S wr S' wr' ∧ (∀ lb ∈ lw, lb ∈ st'.l) ∧ RVd P n ops Q X S0 w0 lw Sr wrr fuel Lj S' wr' st') : RVd P n ops Q X S0 w0 lw Sr wrr (fuel + 1) L S wr st := by
  subst hLi hLj
  intro hx a wa hA hI
  refine wpAnyH_all hr (by simp) fun k hk => ?_
  simp only [List.mem_cons, List.not_mem_nil, or_false] at hk
  rcases hk with rfl | rfl
  · refine hdi a wa _ hA hI fun S' wr' st' hN a' wa' hA' hI' => ?_
    obtain ⟨hx', hw, h2⟩ := hi S' wr' st' hN
    exact ⟨hI'.holdM hw (hx.trans hx'), h2 (hx.trans hx') a' wa' hA' hI'⟩
  · refine hdj a wa _ hA hI fun S' wr' st' hN a' wa' hA' hI' => ?_
    obtain ⟨hx', hw, h2⟩ := hj S' wr' st' hN
    exact ⟨hI'.holdM hw (hx.trans hx'), h2 (hx.trans hx') a' wa' hA' hI'⟩

theorem Does_step (hT : TabOK P T) {i : Nat} (h : Nat) (ro : List RB) (ks : List Nat) (st' : St) (xs : List Nat) (cs : List Cond) (he : (stepOp T n ops ro i h st).map (fun r => ({ r with st := ⟨only ks r.st.m, r.st.l⟩ } : Res)) = some ⟨st', xs, xs, cs⟩)
    (hro : ROL ro S wr st.l) (hcs : Conds cs) : Does P n ops Q X S0 w0 i S wr st fun S' wr' st1 => S' = S ∧ wr' = wr ∧ st1 = st' := by
  intro a wa K hA hI hK
  cases hr : stepOp T n ops ro i h st with
  | none => rw [hr] at he; cases he
  | some p =>
    rw [hr] at he
    obtain ⟨st1, x1, y1, c1⟩ := p
    simp only [Option.map_some, Option.some.injEq, Res.mk.injEq] at he
    obtain ⟨rfl, rfl, rfl, rfl⟩ := he
    exact stepOp_sound (S := S) (wr := wr) hT hr hcs hA hI (hro.ok hI.ref hI.own) fun a' wa' hA' hI' => hK S wr _ ⟨rfl, rfl, rfl⟩ a' wa' (hA'.only ks) hI'

theorem RVd_step (hT : TabOK P T) (i h : Nat) (ks iw : List Nat) (L' : Array Bool) (st' : St) (xs : List Nat) (hr : Region.ready .any ops L = [i]) (hL : L.setIfInBounds i true = L')
    (he : (stepOp T n ops [] i h st).map (fun r => ({ r with st := ⟨only ks r.st.m, r.st.l⟩ } : Res)) = some ⟨st', xs, xs, []⟩) (hw : pickL st'.l iw = lw)
    (hk : RVd P n ops Q X S0 w0 lw Sr wrr fuel L' S wr st') : RVd P n ops Q X S0 w0 lw Sr wrr (fuel + 1) L S wr st :=
  RVd_one i hr hL (Does_step hT h [] ks st' xs [] he ROL_nil trivial) fun S' wr' st1 ⟨h1, h2, h3⟩ => by subst h1 h2 h3; exact ⟨Ext.refl _ _, mem_of_pick hw, hk⟩

theorem RVd_step2 (hT : TabOK P T) (i j hi hj : Nat) (ki kj iwi iwj : List Nat) (Li Lj : Array Bool) (sti stj : St) (xi xj : List Nat) (hr : Region.ready .any ops L = [i, j]) (hLi : L.setIfInBounds i true = Li) (hLj : L.setIfInBounds j true = Lj)
    (hei : (stepOp T n ops [] i hi st).map (fun r => ({ r with st := ⟨only ki r.st.m, r.st.l⟩ } : Res)) = some ⟨sti, xi, xi, []⟩) (hej : (stepOp T n ops [] j hj st).map (fun r => ({ r with st := ⟨only kj r.st.m, r.st.l⟩ } : Res)) = some ⟨stj, xj, xj, []⟩)
    (hwi : pickL sti.l iwi = lw) (hwj : pickL stj.l iwj = lw) (hki : RVd P n ops Q X S0 w0 lw Sr wrr fuel Li S wr sti) (hkj : RVd P n ops Q X S0 w0 lw Sr wrr fuel Lj S wr stj) : RVd P n ops Q X S0 w0 lw Sr wrr (fuel + 1) L S wr st :=
  RVd_two i j hr hLi hLj (Does_step hT hi [] ki sti xi [] hei ROL_nil trivial) (Does_step hT hj [] kj stj xj [] hej ROL_nil trivial)
    (fun S' wr' st1 ⟨h1, h2, h3⟩ => by subst h1 h2 h3; exact ⟨Ext.refl _ _, mem_of_pick hwi, hki⟩) (fun S' wr' st1 ⟨h1, h2, h3⟩ => by subst h1 h2 h3; exact ⟨Ext.refl _ _, mem_of_pick hwj, hkj⟩)

theorem RV_step (hT : TabOK P T) {c k : Nat} (h : Nat) (ro : List RB) (ks : List Nat) (st' : St) (xs : List Nat) (cs : List Cond) (he : (stepOp T n ops ro k h st).map (fun r => ({ r with st := ⟨only ks r.st.m, r.st.l⟩ } : Res)) = some ⟨st', xs, xs, cs⟩)
    (hro : ROL ro S wr st.l) (hcs : Conds cs) (hk : RV P n ops Q X S0 w0 c (k + 1) S wr st') : RV P n ops Q X S0 w0 (c + 1) k S wr st :=
  RV_does (Does_step hT h ro ks st' xs cs he hro hcs) fun S' wr' st1 ⟨h1, h2, h3⟩ => by subst h1 h2 h3; exact hk

theorem RVd_new (hT : TabOK P T) (i : Nat) (ks iw : List Nat) (L' : Array Bool) (st' : Nat → St) (hr : Region.ready .any ops L = [i]) (hL : L.setIfInBounds i true = L')
    (he : ∀ b, newAt T n ops i ks st b = some (st' b)) (hw : ∀ b, pickL (st' b).l iw = lw)
    (hk : ∀ b, RVd P n ops Q X S0 w0 lw Sr wrr fuel L' S wr (st' b)) : RVd P n ops Q X S0 w0 lw Sr wrr (fuel + 1) L S wr st :=
  RVd_one i hr hL (Does_new hT ks st' he) fun S' wr' st1 ⟨h1, h2, b, h3⟩ => by subst h1 h2 h3; exact ⟨Ext.refl _ _, mem_of_pick (hw b), hk b⟩

theorem RVd_callM (i : Nat) (L' : Array Bool) (ls rest : List LB) {f : FuncId} {vs : List Value} {dst : Option Nat} {R : Value → List LB → (Nat → Prop) → World → Prop}
    (hr : Region.ready .any ops L = [i]) (hL : L.setIfInBounds i true = L') (he : callAt n ops i st = some (f, vs, dst)) (hE : Enters P f) (hl : st.l = ls ++ rest)
    (hC : ∀ wa, Ext S wr S wa → Pre S wa ls → Calls P f vs.toArray wa (Ret S wa ls R))
    (h : ∀ S' wr' v ls', Ext S wr S' wr' → R v ls' S' wr' → (∀ lb ∈ lw, lb ∈ ls' ++ rest) ∧ RVd P n ops Q X S0 w0 lw Sr wrr fuel L' S' wr' ⟨put st.m dst v, ls' ++ rest⟩) :
    RVd P n ops Q X S0 w0 lw Sr wrr (fuel + 1) L S wr st :=
  RVd_one i hr hL (Does_call ls rest he hE hl hC) fun S' wr' st1 ⟨v, ls', h1, h3, h4⟩ => by subst h4; exact ⟨h1, h S' wr' v ls' h1 h3⟩

theorem RVd_call (i : Nat) (iw : List Nat) (L' : Array Bool) {f : FuncId} {vs : List Value} {dst : Option Nat} {R : Value → List LB → (Nat → Prop) → World → Prop}
    (hr : Region.ready .any ops L = [i]) (hL : L.setIfInBounds i true = L') (he : callAt n ops i st = some (f, vs, dst)) (hE : Enters P f) (hw : pickL st.l iw = lw)
    (hC : ∀ wa, Ext S wr S wa → Pre S wa [] → Calls P f vs.toArray wa (Ret S wa [] R))
    (h : ∀ S' wr' v ls', Ext S wr S' wr' → R v ls' S' wr' → RVd P n ops Q X S0 w0 lw Sr wrr fuel L' S' wr' ⟨put st.m dst v, st.l⟩) :
    RVd P n ops Q X S0 w0 lw Sr wrr (fuel + 1) L S wr st :=
  RVd_callM i L' [] st.l hr hL he hE rfl hC fun S' wr' v ls' h1 h3 =>
    ⟨fun lb hl => List.mem_append_right _ (mem_of_pick hw lb hl), fun hx a wa hA hI => h S' wr' v ls' h1 h3 hx a wa hA (hI.fewer (List.sublist_append_right ls' st.l))⟩

theorem RVd_case (t : Bool) (stf : Bool → St) (he : st = stf t)
    (h1 : t = true → RVd P n ops Q X S0 w0 lw Sr wrr fuel L S wr (stf true)) (h0 : t = false → RVd P n ops Q X S0 w0 lw Sr wrr fuel L S wr (stf false)) : RVd P n ops Q X S0 w0 lw Sr wrr fuel L S wr st := by
  subst he
  cases t with
  | true => exact h1 rfl
  | false => exact h0 rfl

theorem RVd_is (t u : Bool) (stf : Bool → St) (he : st = stf t) (ht : t = u) (h : RVd P n ops Q X S0 w0 lw Sr wrr fuel L S wr (stf u)) : RVd P n ops Q X S0 w0 lw Sr wrr fuel L S wr st := by
  subst he ht; exact h

end draws

/-! ### Ways that meet -/

def MeetK (n : NN) (X S0 : Nat → Prop) (w0 : World) (M : (Nat → Prop) → World → St → Prop) (K : Exit → Act → World → Prop) : Exit → Act → World → Prop
  | .normal, a, w => ∃ S wr st, M S wr st ∧ Agree n a st.m ∧ Inv X S0 w0 S wr st.l w
  | e, a, w => K e a w

instance {n : NN} {X S0 : Nat → Prop} {w0 : World} {M : (Nat → Prop) → World → St → Prop} {K B : Exit → Act → World → Prop} [h : Bottom K B] : Bottom (MeetK n X S0 w0 M K) B := ⟨fun a w => h.ret a w, fun c a w => h.panic c a w⟩

instance {n : NN} {X S0 : Nat → Prop} {w0 : World} {M : (Nat → Prop) → World → St → Prop} {K : Exit → Act → World → Prop} [h : PanicOK K] : PanicOK (MeetK n X S0 w0 M K) := ⟨fun d v c a w k => h.put d v c a w k⟩

theorem VC_meet {c : Code} (M : (Nat → Prop) → World → St → Prop) (h : VC P n c (MeetK n X S0 w0 M K) X S0 w0 S wr st) (k : ∀ S' wr' st', M S' wr' st' → KE n .normal K X S0 w0 S' wr' st') : VC P n c K X S0 w0 S wr st := by
  intro a wa hA hI
  refine wp_mono (h a wa hA hI) fun e a' w' he => ?_
  cases e <;> try exact he
  obtain ⟨S', wr', st', hM, hA', hI'⟩ := he
  exact k S' wr' st' hM a' w' hA' hI'

theorem KE_meet {M : (Nat → Prop) → World → St → Prop} (ks is : List Nat) (st' : St) (hm : (⟨only ks st.m, pickL st.l is⟩ : St) = st') (hs : is.Pairwise (· < ·)) (hM : M S wr st') : KE n .normal (MeetK n X S0 w0 M K) X S0 w0 S wr st := by
  subst hm
  exact fun a wa hA hI => ⟨S, wr, _, hM, hA.only ks, hI.fewer (pickL_sublist hs)⟩

end
end Eng
end Go.YtmfkmoecbnghhaaDoor
