/- What an operation that only reads comes to, reckoned on what is known; and that it does. -/
import Derived.Test.YtmfkmoecbnghhaaDoorEngA
import Derived.WalkKit
namespace Go.YtmfkmoecbnghhaaDoor
namespace Eng

def evAll (m : Mp) : List Operand → Option (List Value)
  | [] => some []
  | x :: r => match ev m x, evAll m r with
    | some v, some vs => some (v :: vs)
    | _, _ => none

theorem evAll_map {n : NN} {a : Act} {m : Mp} (h : Agree n a m) : ∀ {l : List Operand} {vs : List Value}, evAll m l = some vs → l.map a.eval = vs
  | [], vs, e => by simpa [evAll] using e
  | x :: r, vs, e => by
    simp only [evAll] at e
    cases hx : ev m x with
    | none => rw [hx] at e; cases e
    | some v =>
      cases hr : evAll m r with
      | none => rw [hx, hr] at e; cases e
      | some us =>
        rw [hx, hr] at e
        simp only [Option.some.injEq] at e
        subst e
        simp [ev_eval h hx, evAll_map h hr]

/-- What must hold for an operation not to fail. -/
inductive Cond where
  | ne0 (y : Int)
  | nn (y : Int)
  | lt (i : Int) (n : Nat)
  | le (i : Int) (n : Nat)
  | sz (n : Nat)

def Cond.holds : Cond → Prop
  | .ne0 y => y ≠ 0
  | .nn y => 0 ≤ y
  | .lt i n => 0 ≤ i ∧ i < n
  | .le i n => 0 ≤ i ∧ i ≤ n
  | .sz n => (n : Int) ≤ 9223372036854775807

def Conds : List Cond → Prop
  | [] => True
  | c :: r => c.holds ∧ Conds r

theorem Conds.app {l r : List Cond} (h : Conds (l ++ r)) : Conds l ∧ Conds r := by
  induction l with
  | nil => exact ⟨trivial, h⟩
  | cons c l ih => exact ⟨⟨h.1, (ih h.2).1⟩, (ih h.2).2⟩

def binI (op : BinOp) (k : IntKind) (a b : Int) : Value × List Cond :=
  match op with
  | .add => (.int k (k.wrap (a + b)), [])
  | .sub => (.int k (k.wrap (a - b)), [])
  | .mul => (.int k (k.wrap (a * b)), [])
  | .quo => (.int k (k.wrap (a.tdiv b)), [.ne0 b])
  | .rem => (.int k (a.tmod b), [.ne0 b])
  | .and => (.int k (k.wrap (BitVec.ofInt k.bits a &&& BitVec.ofInt k.bits b).toNat), [])
  | .or => (.int k (k.wrap (BitVec.ofInt k.bits a ||| BitVec.ofInt k.bits b).toNat), [])
  | .xor => (.int k (k.wrap (BitVec.ofInt k.bits a ^^^ BitVec.ofInt k.bits b).toNat), [])
  | .andNot => (.int k (k.wrap (BitVec.ofInt k.bits a &&& ~~~ BitVec.ofInt k.bits b).toNat), [])
  | .eql => (.bool (a == b), [])
  | .neq => (.bool (a != b), [])
  | .lss => (.bool (decide (a < b)), [])
  | .leq => (.bool (decide (a ≤ b)), [])
  | .gtr => (.bool (decide (a > b)), [])
  | .geq => (.bool (decide (a ≥ b)), [])
  | .shl => (.int k (k.wrap (a * 2 ^ min b.toNat k.bits)), [.nn b])
  | .shr => (.int k (a.fdiv (2 ^ min b.toNat k.bits)), [.nn b])

def isShift : BinOp → Bool
  | .shl | .shr => true
  | _ => false

def binV (D : TypeDesc) (op : BinOp) (x y : Value) : Option (Value × List Cond) :=
  match x, y with
  | .int k a, .int k' b => if k = k' ∨ isShift op = true then some (binI op k a b) else none
  | .string a, .string b => match op with
    | .eql => some (.bool (a.toList == b.toList), [])
    | .neq => some (.bool (!(a.toList == b.toList)), [])
    | .add => some (.string (a ++ b), [.sz (a.size + b.size)])
    | _ => none
  | .bool a, .bool b => match D, op with
    | .bool, .eql => some (.bool (a == b), [])
    | .bool, .neq => some (.bool (!(a == b)), [])
    | _, _ => none
  | .func _ _ _, .nilFunc => match D, op with
    | .func .., .eql => some (.bool false, [])
    | .func .., .neq => some (.bool true, [])
    | _, _ => none
  | .nilFunc, .nilFunc => match D, op with
    | .func .., .eql => some (.bool true, [])
    | .func .., .neq => some (.bool false, [])
    | _, _ => none
  | _, _ => none

def fieldTI (T : Tab) (t i : Nat) : Option (Field × TI) :=
  match T.get t with
  | some ⟨_, _, .struct fs⟩ => match fs[i]? with
    | some f => match T.get f.type with
      | some ti => some (f, ti)
      | none => none
    | none => none
  | _ => none

/-- A part of a struct's or an array's cells. -/
def partV (ti : TI) (cs : List Value) (off : Nat) : Option Value :=
  bif isAggD ti.desc then some (.agg ((cs.drop off).take ti.size).toArray) else cs[off]?

def setRange (cs : List Value) (off : Nat) (vs : List Value) : List Value := cs.take off ++ vs ++ cs.drop (off + vs.length)

def cellsL : Value → List Value
  | .agg cs => cs.toList
  | v => [v]

theorem cellsL_eq (v : Value) : v.cells.toList = cellsL v := by cases v <;> rfl

def fillL (place : Nat → Option (Nat × Nat)) (cs : List Value) : List (Nat × Value) → Option (List Value)
  | [] => some cs
  | (i, v) :: r =>
    match place i with
    | none => none
    | some (off, size) => bif Nat.beq (cellsL v).length size && Nat.ble (off + (cellsL v).length) cs.length then fillL place (setRange cs off (cellsL v)) r else none

def evParts (m : Mp) : List (Nat × Operand) → Option (List (Nat × Value))
  | [] => some []
  | (i, x) :: r => match ev m x, evParts m r with
    | some v, some vs => some ((i, v) :: vs)
    | _, _ => none

def placesOf (T : Tab) : List Field → Option (List (Nat × Nat))
  | [] => some []
  | f :: r => match T.get f.type, placesOf T r with
    | some ti, some ps => some ((f.offset, ti.size) :: ps)
    | _, _ => none

def buildV (T : Tab) (t : Nat) (ps : List (Nat × Value)) : Option Value :=
  match T.get t with
  | some ⟨_, z, .struct fs⟩ => match placesOf T fs.toList with
    | some pl => (fillL (fun i => pl[i]?) (cellsL z) ps).map fun cs => .agg cs.toArray
    | none => none
  | some ⟨_, z, .array _ e⟩ => match T.get e with
    | some ti => (fillL (fun i => some (i * ti.size, ti.size)) (cellsL z) ps).map fun cs => .agg cs.toArray
    | none => none
  | _ => none

/-- What stands where nobody writes any more: the cells from a place on. -/
structure RB where
  b : Nat
  o : Nat
  cells : List Value

/-- What an operation gives: its value; blocks and places that must be one; what must hold. -/
structure Out where
  v : Value
  xs : List Nat
  ys : List Nat
  cs : List Cond

/-- A load out of an own block: its cells there; from 1000 on: out of what stands. -/
def ldL (T : Tab) (l : List LB) (ro : List RB) (h t b o : Nat) : Option (Value × List Nat × List Nat) :=
  match T.get t with
  | some ti => bif Nat.ble 1000 h then
      (match ro[(h - 1000) / 100]? with
       | some rb => match whole ti ((rb.cells.drop (h % 100)).take ti.size) with
         | some v => some (v, [b, o], [rb.b, rb.o + h % 100])
         | none => none
       | none => none)
    else (match l[h]? with
       | some lb => match whole ti ((lb.cells.drop o).take ti.size) with
         | some v => some (v, [b], [lb.id])
         | none => none
       | none => none)
  | none => none

def pure1 (v : Option Value) : Option Out :=
  match v with
  | some v => some ⟨v, [], [], []⟩
  | none => none

def pureC (v : Option (Value × List Cond)) : Option Out :=
  match v with
  | some (v, cs) => some ⟨v, [], [], cs⟩
  | none => none

def lenV (D : TypeDesc) (v : Value) : Option Value :=
  match D, v with
  | .string, .string s => some (.int .i64 s.size)
  | .array n _, _ => some (.int .i64 n)
  | .slice _, .slice _ n _ => some (.int .i64 n)
  | _, _ => none

def isLen : Callee → Bool
  | .builtin .len => true
  | _ => false

def one {α : Type} : List α → Option α
  | [x] => some x
  | _ => none

def lenCall (T : Tab) (m : Mp) (c : Call) : Option Out :=
  if isLen c.callee = true then
    match one c.args.toList, one c.argTypes.toList with
    | some x, some t => match T.get t, ev m x with
      | some ti, some v => pure1 (lenV ti.desc v)
      | _, _ => none
    | _, _ => none
  else none

/-- x[:h] -/
def sliceTo (T : Tab) (D : TypeDesc) (x : Value) (h : Option Value) : Option Out :=
  match D, x, h with
  | .array n e, .pointer (some ⟨b, o, none⟩), none => match T.get e with
    | some _ => some ⟨.slice (some ⟨b, o, none⟩) n n, [], [], []⟩
    | none => none
  | .array n e, .pointer (some ⟨b, o, none⟩), some (.int _ i) => match T.get e with
    | some _ => some ⟨.slice (some ⟨b, o, none⟩) i.toNat n, [], [], [.le i n]⟩
    | none => none
  | .slice e, .slice a n c, none => match T.get e with
    | some _ => some ⟨.slice a n c, [], [], []⟩
    | none => none
  | .slice e, .slice a _ c, some (.int _ i) => match T.get e with
    | some _ => some ⟨.slice a i.toNat c, [], [], [.le i c]⟩
    | none => none
  | .string, .string s, some (.int _ i) => some ⟨.string (s.extract 0 i.toNat), [], [], [.le i s.size]⟩
  | _, _, _ => none

/-- s[l:h], s[l:] of a string -/
def sliceStr (D : TypeDesc) (x l : Value) (h : Option Value) : Option Out :=
  match D, x, l, h with
  | .string, .string s, .int _ i, none => some ⟨.string (s.extract i.toNat s.size), [], [], [.le i s.size]⟩
  | .string, .string s, .int _ i, some (.int _ j) => some ⟨.string (s.extract i.toNat j.toNat), [], [], [.le j s.size, .le i j.toNat]⟩
  | _, _, _, _ => none

def evStill (T : Tab) (m : Mp) (l : List LB) (ro : List RB) (o : Op) (h : Nat) : Option Out :=
  match o with
  | .move x | .assign x => pure1 (ev m x)
  | .pick c x y => match ev m c with
    | some (.bool true) => pure1 (ev m x)
    | some (.bool false) => pure1 (ev m y)
    | _ => none
  | .nilCheck x => match ev m x with
    | some (.pointer (some a)) => some ⟨.pointer (some a), [], [], []⟩
    | some (.func (.func f) u c) => some ⟨.func (.func f) u c, [], [], []⟩
    | _ => none
  | .binOp op t x y _ => match ev m x, ev m y, T.get t with
    | some a, some b, some ti => pureC (binV ti.desc op a b)
    | _, _, _ => none
  | .unOp op _ x => match op, ev m x with
    | .not, some (.bool b) => some ⟨.bool (!b), [], [], []⟩
    | .neg, some (.int k n) => some ⟨.int k (k.wrap (0 - n)), [], [], []⟩
    | _, _ => none
  | .convert s t x => match T.get s, T.get t, ev m x with
    | some _, some ⟨_, _, .int k⟩, some (.int _ n) => some ⟨.int k (k.wrap n), [], [], []⟩
    | _, _, _ => none
  | .fieldAddr t x i => match fieldTI T t i, ev m x with
    | some (f, ti), some (.pointer (some ⟨b, o, none⟩)) => bif Nat.beq ti.size 0 then none else some ⟨.pointer (some ⟨b, o + f.offset, none⟩), [], [], []⟩
    | _, _ => none
  | .field t x i => match fieldTI T t i, ev m x with
    | some (f, ti), some (.agg cs) => pure1 (partV ti cs.toList f.offset)
    | _, _ => none
  | .indexAddr t x ix => match T.get t, ev m x, ev m ix with
    | some ⟨_, _, .array n e⟩, some (.pointer (some ⟨b, o, none⟩)), some (.int _ i) => match T.get e with
      | some ti => some ⟨.pointer (some ⟨b, o + i.toNat * ti.size, none⟩), [], [], [.lt i n]⟩
      | none => none
    | some ⟨_, _, .slice e⟩, some (.slice (some ⟨b, o, none⟩) n _), some (.int _ i) => match T.get e with
      | some ti => some ⟨.pointer (some ⟨b, o + i.toNat * ti.size, none⟩), [], [], [.lt i n]⟩
      | none => none
    | _, _, _ => none
  | .index t x ix => match T.get t, ev m x, ev m ix with
    | some ⟨_, _, .array n e⟩, some (.agg cs), some (.int _ i) => match T.get e with
      | some ti => match partV ti cs.toList (i.toNat * ti.size) with
        | some v => some ⟨v, [], [], [.lt i n]⟩
        | none => none
      | none => none
    | some ⟨_, _, .string⟩, some (.string s), some (.int _ i) => some ⟨.int .u8 ((s.data.toList.getD i.toNat 0).toNat), [], [], [.lt i s.size]⟩
    | _, _, _ => none
  | .load t x => match ev m x with
    | some (.pointer (some ⟨b, o, none⟩)) => match ldL T l ro h t b o with
      | some (v, xs, ys) => some ⟨v, xs, ys, []⟩
      | none => none
    | _ => none
  | .extract x i => match ev m x with
    | some (.tuple vs) => pure1 vs.toList[i]?
    | _ => none
  | .makeFunc fn u c => match evAll m u.toList, evAll m c.toList with
    | some us, some cs => some ⟨.func fn us.toArray cs.toArray, [], [], []⟩
    | _, _ => none
  | .build t ps => match evParts m ps.toList with
    | some vs => pure1 (buildV T t vs)
    | none => none
  | .slice t x none none none => match T.get t, ev m x with
    | some ti, some v => sliceTo T ti.desc v none
    | _, _ => none
  | .slice t x none (some y) none => match T.get t, ev m x, ev m y with
    | some ti, some v, some u => sliceTo T ti.desc v (some u)
    | _, _, _ => none
  | .slice t x (some z) none none => match T.get t, ev m x, ev m z with
    | some ti, some v, some q => sliceStr ti.desc v q none
    | _, _, _ => none
  | .slice t x (some z) (some y) none => match T.get t, ev m x, ev m z, ev m y with
    | some ti, some v, some q, some u => sliceStr ti.desc v q (some u)
    | _, _, _, _ => none
  | .call c => lenCall T m c
  | _ => none

def OwnL (l : List LB) (w : World) : Prop := ∀ lb ∈ l, w.heap[lb.id]? = some (.cells lb.cells.toArray lb.ty (0, 0))

section sound
variable {P : Program} {T : Tab} {w : World} {n : NN} {a : Act} {m : Mp} {l : List LB}

theorem pure1_some {v : Option Value} {r : Out} (h : pure1 v = some r) : v = some r.v ∧ r.xs = [] ∧ r.ys = [] ∧ r.cs = [] := by
  cases v with
  | none => cases h
  | some v => simp only [pure1, Option.some.injEq] at h; subst h; exact ⟨rfl, rfl, rfl, rfl⟩

theorem pureC_some {v : Option (Value × List Cond)} {r : Out} (h : pureC v = some r) : v = some (r.v, r.cs) ∧ r.xs = [] ∧ r.ys = [] := by
  cases v with
  | none => cases h
  | some v => simp only [pureC, Option.some.injEq] at h; subst h; exact ⟨rfl, rfl, rfl⟩

theorem run_binI {op : BinOp} {k k' : IntKind} {x y : Int} (t : TypeId) (hk : k = k' ∨ isShift op = true) (h : Conds (binI op k x y).2) :
    (binOp op t (.int k x) (.int k' y)).run P w = .ok (binI op k x y).1 w := by
  cases op <;> simp only [isShift, Bool.false_eq_true, or_false] at hk <;> (try subst hk) <;> simp only [binI, Conds, Cond.holds, and_true] at h
  case shl => simp [binOp, Op.shift, binI, show ¬ y < 0 from by omega]
  case shr => simp [binOp, Op.shift, binI, show ¬ y < 0 from by omega]
  case quo => simp [binOp, Op.intDiv, binI, h]
  case rem => simp [binOp, Op.intDiv, binI, h]
  all_goals simp [binOp, Op.intArith, Op.intBits, Op.intCmp, binI]

theorem run_equalIn_bool (d : Nat) {t : TypeId} {ti : TI} (x y : Bool) (hT : TabOK P T) (ht : T.get t = some ti) (hd : ti.desc = .bool) :
    (Op.equalIn (d + 1) t (.bool x) (.bool y)).run P w = .ok (x == y) w := by
  simp only [Op.equalIn, Sem.run_bind, run_und (w := w) hT ht, hd, Result.andThen_ok, Sem.run_pure]

theorem run_equalIn_func (d : Nat) {t : TypeId} {ti : TI} {ps rs : Array TypeId} {va : Bool} (f : Fn) (u c : Array Value) (hT : TabOK P T) (ht : T.get t = some ti) (hd : ti.desc = .func ps rs va) :
    (Op.equalIn (d + 1) t (.func f u c) .nilFunc).run P w = .ok false w := by
  simp only [Op.equalIn, Sem.run_bind, run_und (w := w) hT ht, hd, Result.andThen_ok, Sem.run_pure]

theorem run_equalIn_nilFunc (d : Nat) {t : TypeId} {ti : TI} {ps rs : Array TypeId} {va : Bool} (hT : TabOK P T) (ht : T.get t = some ti) (hd : ti.desc = .func ps rs va) :
    (Op.equalIn (d + 1) t .nilFunc .nilFunc).run P w = .ok true w := by
  simp only [Op.equalIn, Sem.run_bind, run_und (w := w) hT ht, hd, Result.andThen_ok, Sem.run_pure]

theorem equal_succ (t : TypeId) (x y : Value) : Op.equal t x y = Op.equalIn (9999 + 1) t x y := rfl

theorem run_binV {op : BinOp} {t : TypeId} {ti : TI} {x y : Value} {v : Value} {cs : List Cond} (hT : TabOK P T) (ht : T.get t = some ti) (h : binV ti.desc op x y = some (v, cs)) (hc : Conds cs) :
    (binOp op t x y).run P w = .ok v w := by
  unfold binV at h
  split at h
  · split at h
    · rename_i hk
      simp only [Option.some.injEq] at h
      rw [Prod.ext_iff] at h
      obtain ⟨h1, h2⟩ := h
      simp only at h1 h2
      rw [← h1]
      rw [← h2] at hc
      exact run_binI t hk hc
    · cases h
  · split at h <;> simp only [Option.some.injEq, reduceCtorEq, Prod.mk.injEq] at h <;> obtain ⟨rfl, rfl⟩ := h <;> simp only [Conds, Cond.holds, and_true] at hc <;> simp [binOp, Op.stringOp]
    omega
  · rename_i p q
    split at h <;> rename_i hd <;> simp only [Option.some.injEq, reduceCtorEq, Prod.mk.injEq] at h <;> obtain ⟨rfl, rfl⟩ := h <;>
      simp only [binOp, equal_succ, Sem.run_bind, run_equalIn_bool (w := w) 9999 p q hT ht hd, Result.andThen_ok, Sem.run_pure]
  · split at h <;> rename_i hd <;> simp only [Option.some.injEq, reduceCtorEq, Prod.mk.injEq] at h <;> obtain ⟨rfl, rfl⟩ := h <;>
      simp only [binOp, equal_succ, Sem.run_bind, run_equalIn_func (w := w) 9999 _ _ _ hT ht hd, Result.andThen_ok, Sem.run_pure, Bool.not_false]
  · split at h <;> rename_i hd <;> simp only [Option.some.injEq, reduceCtorEq, Prod.mk.injEq] at h <;> obtain ⟨rfl, rfl⟩ := h <;>
      simp only [binOp, equal_succ, Sem.run_bind, run_equalIn_nilFunc (w := w) 9999 hT ht hd, Result.andThen_ok, Sem.run_pure, Bool.not_true]
  · cases h

theorem run_eqGuard {op : BinOp} {t : TypeId} {ti : TI} {x y : Value} {p q : Operand} {v : Value × List Cond} (h : binV ti.desc op x y = some v) :
    (eqGuard op t p q x y).run P w = .ok () w := by
  unfold binV at h
  split at h <;> cases op <;> simp [eqGuard] <;> cases h

theorem run_part {ti : TI} {t : TypeId} {cs : Array Value} {off : Nat} {v : Value} (hT : TabOK P T) (ht : T.get t = some ti) (h : partV ti cs.toList off = some v) :
    (part t cs off).run P w = .ok v w := by
  unfold partV at h
  unfold part
  rw [Sem.run_bind, run_isAgg hT ht]
  simp only [Result.andThen_ok]
  by_cases ha : isAggD ti.desc = true
  · rw [ha] at h ⊢
    simp only [cond_true, Option.some.injEq] at h
    subst h
    simp only [if_true, Sem.run_bind, run_size (w := w) hT ht, Result.andThen_ok]
    show Result.ok _ w = _
    congr 2
    apply Array.ext'
    simp
  · rw [Bool.not_eq_true] at ha
    rw [ha] at h ⊢
    simp only [cond_false, Array.getElem?_toList] at h
    simp [h]

theorem setRange_eq : ∀ (vs : List Value) (cs : List Value) (off k : Nat), off + k + vs.length ≤ cs.length →
    (vs.zipIdx k).foldl (fun (cs : Array Value) (p : Value × Nat) => cs.setIfInBounds (off + p.2) p.1) cs.toArray = (setRange cs (off + k) vs).toArray := by
  intro vs
  induction vs with
  | nil => intro cs off k _; simp [setRange]
  | cons v r ih =>
    intro cs off k hl
    simp only [List.zipIdx_cons, List.foldl_cons, List.setIfInBounds_toArray]
    rw [ih _ _ _ (by simp at hl ⊢; omega)]
    congr 1
    simp only [setRange, List.length_cons] at hl ⊢
    rw [List.take_set, List.drop_set_of_lt (by omega)]
    have h1 : off + (k + 1) = (off + k) + 1 := by omega
    rw [h1, List.take_add_one, List.getElem?_eq_getElem (by omega)]
    have h2 : (List.take (off + k) cs ++ (some cs[off + k]).toList).set (off + k) v = List.take (off + k) cs ++ [v] := by
      rw [List.set_append_right _ _ (by simp; omega)]
      simp [show min (off + k) cs.length = off + k from by omega]
    rw [h2]
    simp [Nat.add_comm, Nat.add_left_comm]

theorem fill_eq (place : Nat → Option (Nat × Nat)) : ∀ (ps : List (Nat × Value)) (cs : List Value) (out : List Value), fillL place cs ps = some out →
    Instr.fill place cs.toArray ps = some out.toArray := by
  intro ps
  induction ps with
  | nil => intro cs out h; simp only [fillL, Option.some.injEq] at h; subst h; rfl
  | cons p r ih =>
    intro cs out h
    obtain ⟨i, v⟩ := p
    simp only [fillL] at h
    simp only [Instr.fill]
    cases hp : place i with
    | none => rw [hp] at h; cases h
    | some q =>
      obtain ⟨off, size⟩ := q
      rw [hp] at h
      simp only [] at h ⊢
      by_cases hc : (Nat.beq (cellsL v).length size && Nat.ble (off + (cellsL v).length) cs.length) = true
      · rw [hc] at h
        simp only [cond_true] at h
        simp only [Bool.and_eq_true] at hc
        have h1 := Nat.eq_of_beq_eq_true hc.1
        have h2 := Nat.le_of_ble_eq_true hc.2
        have hsz : v.cells.size = (cellsL v).length := by rw [← cellsL_eq]; simp
        rw [if_neg (by rw [hsz]; simp; omega)]
        rw [← ih _ _ h]
        congr 1
        have := setRange_eq (cellsL v) cs off 0 (by omega)
        rw [Nat.add_zero] at this
        rw [← this, ← cellsL_eq]
        rw [← Array.foldl_toList]
        simp
      · rw [Bool.not_eq_true] at hc
        rw [hc] at h; cases h

theorem run_places (hT : TabOK P T) : ∀ (fs : List Field) (pl : List (Nat × Nat)), placesOf T fs = some pl →
    (fs.mapM fun f => do pure (f.offset, ← sizeOf f.type) : Sem (List (Nat × Nat))).run P w = .ok pl w := by
  intro fs
  induction fs with
  | nil => intro pl h; simp only [placesOf, Option.some.injEq] at h; subst h; simp
  | cons f r ih =>
    intro pl h
    simp only [placesOf] at h
    cases hf : T.get f.type with
    | none => rw [hf] at h; cases h
    | some ti =>
      cases hr : placesOf T r with
      | none => rw [hf, hr] at h; cases h
      | some ps =>
        rw [hf, hr] at h
        simp only [Option.some.injEq] at h
        subst h
        rw [List.mapM_cons]
        simp only [Sem.run_bind, run_size (w := w) hT hf, Result.andThen_ok, Sem.run_pure]
        rw [ih _ hr]
        rfl

theorem evParts_map {n : NN} {a : Act} {m : Mp} (h : Agree n a m) : ∀ {l : List (Nat × Operand)} {vs : List (Nat × Value)}, evParts m l = some vs → l.map (fun p => (p.1, a.eval p.2)) = vs
  | [], vs, e => by simpa [evParts] using e
  | (i, x) :: r, vs, e => by
    simp only [evParts] at e
    cases hx : ev m x with
    | none => rw [hx] at e; cases e
    | some v =>
      cases hr : evParts m r with
      | none => rw [hx, hr] at e; cases e
      | some us =>
        rw [hx, hr] at e
        simp only [Option.some.injEq] at e
        subst e
        simp [ev_eval h hx, evParts_map h hr]

theorem run_build {t : TypeId} {ps : List (Nat × Value)} {v : Value} (hT : TabOK P T) (h : buildV T t ps = some v) :
    (Instr.build t ps.toArray).run P w = .ok v w := by
  unfold buildV at h
  split at h
  · rename_i sz z fs ht
    split at h
    · rename_i pl hpl
      cases hf : fillL (fun i => pl[i]?) (cellsL z) ps with
      | none => rw [hf] at h; cases h
      | some cs =>
        rw [hf] at h
        simp only [Option.map_some, Option.some.injEq] at h
        subst h
        unfold Instr.build
        have hz : z.cells = (cellsL z).toArray := by rw [← cellsL_eq]
        have hp := run_places (w := w) hT _ _ hpl
        have hfe := fill_eq _ _ _ _ hf
        rw [← hz] at hfe
        rw [Sem.run_bind, run_zero hT ht]
        simp only [Result.andThen_ok, Sem.run_bind, run_und (w := w) hT ht]
        rw [Array.mapM_eq_mapM_toList]
        simp only [Sem.run_map, hp, Result.andThen_ok, List.getElem?_toArray]
        rw [hfe]
        rfl
    · cases h
  · rename_i sz z k e ht
    split at h
    · rename_i ti he
      cases hf : fillL (fun i => some (i * ti.size, ti.size)) (cellsL z) ps with
      | none => rw [hf] at h; cases h
      | some cs =>
        rw [hf] at h
        simp only [Option.map_some, Option.some.injEq] at h
        subst h
        unfold Instr.build
        have hz : z.cells = (cellsL z).toArray := by rw [← cellsL_eq]
        have hfe := fill_eq _ _ _ _ hf
        rw [← hz] at hfe
        rw [Sem.run_bind, run_zero hT ht]
        simp only [Result.andThen_ok, Sem.run_bind, run_und (w := w) hT ht, run_size (w := w) hT he]
        rw [hfe]
        rfl
    · cases h
  · cases h

theorem fieldTI_some {t i : Nat} {f : Field} {ti : TI} (h : fieldTI T t i = some (f, ti)) :
    ∃ sz z fs, T.get t = some ⟨sz, z, .struct fs⟩ ∧ fs[i]? = some f ∧ T.get f.type = some ti := by
  unfold fieldTI at h
  split at h
  · rename_i sz z fs ht
    split at h
    · rename_i g hg
      split at h
      · rename_i tj htj
        simp only [Option.some.injEq, Prod.mk.injEq] at h
        obtain ⟨rfl, rfl⟩ := h
        exact ⟨sz, z, fs, ht, hg, htj⟩
      · cases h
    · cases h
  · cases h

theorem whole_len {ti : TI} {vs : List Value} {v : Value} (h : whole ti vs = some v) : vs.length = ti.size := by
  unfold whole at h
  by_cases hl : Nat.beq vs.length ti.size = true
  · exact Nat.eq_of_beq_eq_true hl
  · rw [Bool.not_eq_true] at hl; rw [hl] at h; cases h

def ROK (ro : List RB) (w : World) : Prop := ∀ rb ∈ ro, ∀ k (hk : k < rb.cells.length), w.cell? ⟨rb.b, rb.o + k, none⟩ = some rb.cells[k]

theorem run_ldL {ro : List RB} (hT : TabOK P T) (hL : OwnL l w) (hR : ROK ro w) {h t b o : Nat} {v : Value} {xs : List Nat} (e : ldL T l ro h t b o = some (v, xs, xs)) :
    (Instr.loadAt t (.pointer (some ⟨b, o, none⟩))).run P w = .ok v w := by
  unfold ldL at e
  split at e
  · rename_i ti hti
    cases hh : Nat.ble 1000 h <;> rw [hh] at e
    · simp only [cond_false] at e
      split at e
      · rename_i lb hlb
        split at e
        · rename_i u hu
          simp only [Option.some.injEq, Prod.mk.injEq] at e
          obtain ⟨rfl, h1, h2⟩ := e
          have hb : b = lb.id := by rw [← h1] at h2; simpa using h2.symm
          subst hb
          refine run_loadAt hT hti hu fun k hk => ?_
          rw [cell_of (hL lb (List.mem_of_getElem? hlb))]
          have hl := hk
          rw [List.length_take, List.length_drop] at hl
          have hlt : o + k < lb.cells.length := by omega
          simp [List.getElem?_eq_getElem hlt]
        · cases e
      · cases e
    · simp only [cond_true] at e
      split at e
      · rename_i rb hrb
        split at e
        · rename_i u hu
          simp only [Option.some.injEq, Prod.mk.injEq] at e
          obtain ⟨rfl, h1, h2⟩ := e
          have hb : b = rb.b ∧ o = rb.o + h % 100 := by rw [← h1] at h2; simp at h2; exact ⟨h2.1.symm, h2.2.symm⟩
          obtain ⟨rfl, rfl⟩ := hb
          refine run_loadAt hT hti hu fun k hk => ?_
          have hl := hk
          rw [List.length_take, List.length_drop] at hl
          have := hR rb (List.mem_of_getElem? hrb) (h % 100 + k) (by omega)
          rw [Nat.add_assoc, this]
          simp
        · cases e
      · cases e
  · cases e

theorem run_sliceTo {t : TypeId} {ti : TI} {x : Value} {h : Option Value} {r : Out} (hT : TabOK P T) (ht : T.get t = some ti) (e : sliceTo T ti.desc x h = some r) (hc : Conds r.cs) :
    (Instr.sliceAt t x none h none).run P w = .ok r.v w := by
  unfold sliceTo at e
  split at e
  · rename_i hd
    split at e
    · rename_i ti' hti
      simp only [Option.some.injEq] at e
      subst e
      simp only [Instr.sliceAt, Sem.run_bind, run_und (w := w) hT ht, hd, Result.andThen_ok, Instr.sureAddr, Sem.run_pure, Instr.sliceBounds, run_size (w := w) hT hti, Nat.zero_mul, Nat.sub_zero, Addr.add, if_true, ite_self]
    · cases e
  · rename_i hd
    split at e
    · rename_i ti' hti
      simp only [Option.some.injEq] at e
      subst e
      simp only [Conds, Cond.holds, and_true] at hc
      simp only [Instr.sliceAt, Sem.run_bind, run_und (w := w) hT ht, hd, Result.andThen_ok, Instr.sureAddr, Sem.run_pure, Instr.sliceBounds, Instr.sliceBound, asIntOf, hc, and_self, if_true, run_size (w := w) hT hti, Nat.zero_mul, Nat.sub_zero, Addr.add, ite_self]
    · cases e
  · rename_i hd
    split at e
    · rename_i ti' hti
      simp only [Option.some.injEq] at e
      subst e
      simp only [Instr.sliceAt, Instr.slice, Sem.run_bind, run_und (w := w) hT ht, hd, Result.andThen_ok, Sem.run_pure, Instr.sliceBounds, run_size (w := w) hT hti, Nat.zero_mul, Nat.sub_zero, Addr.add, if_true]
      rename_i aa _ _
      cases aa <;> simp
    · cases e
  · rename_i hd
    split at e
    · rename_i ti' hti
      simp only [Option.some.injEq] at e
      subst e
      simp only [Conds, Cond.holds, and_true] at hc
      simp only [Instr.sliceAt, Instr.slice, Sem.run_bind, run_und (w := w) hT ht, hd, Result.andThen_ok, Sem.run_pure, Instr.sliceBounds, Instr.sliceBound, asIntOf, hc, and_self, if_true, run_size (w := w) hT hti, Nat.zero_mul, Nat.sub_zero, Addr.add, if_true]
      rename_i aa _ _ _ _
      cases aa <;> simp
    · cases e
  · rename_i hd
    simp only [Option.some.injEq] at e
    subst e
    simp only [Conds, Cond.holds, and_true] at hc
    simp [Instr.sliceAt, Instr.slice, run_und (w := w) hT ht, hd, Instr.sliceBounds, Instr.sliceBound, asIntOf, hc]
    try (intro hlt; exfalso; omega)
  · cases e

theorem run_sliceStr {t : TypeId} {ti : TI} {x l' : Value} {h : Option Value} {r : Out} (hT : TabOK P T) (ht : T.get t = some ti) (e : sliceStr ti.desc x l' h = some r) (hc : Conds r.cs) :
    (Instr.sliceAt t x (some l') h none).run P w = .ok r.v w := by
  unfold sliceStr at e
  split at e
  · rename_i hd
    simp only [Option.some.injEq] at e
    subst e
    simp only [Conds, Cond.holds, and_true] at hc
    simp [Instr.sliceAt, Instr.slice, run_und (w := w) hT ht, hd, Instr.sliceBounds, Instr.sliceBound, asIntOf, hc]
  · rename_i hd
    simp only [Option.some.injEq] at e
    subst e
    simp only [Conds, Cond.holds, and_true] at hc
    simp [Instr.sliceAt, Instr.slice, run_und (w := w) hT ht, hd, Instr.sliceBounds, Instr.sliceBound, asIntOf, hc]
    try (intro hlt; exfalso; omega)
  · cases e

theorem one_some {α : Type} {l : List α} {x : α} (h : one l = some x) : l = [x] := by
  match l, h with
  | [y], h => simpa [one] using h

theorem run_lenCall (hT : TabOK P T) (hA : Agree n a m) {c : Call} {dst : Option Tmp} {type : TypeId} {pos : String} {after : Array Edge} {guard : Option (Nat × Bool)} {v : Value} {xs : List Nat} {cs : List Cond}
    (he : lenCall T m c = some ⟨v, xs, xs, cs⟩) : (execOp a.eval ⟨dst, .call c, type, pos, after, guard⟩).run P w = .ok (.value v) w := by
  unfold lenCall at he
  split at he
  · rename_i hc
    obtain ⟨callee, args, tys⟩ := c
    simp only at hc he
    have hcal : callee = .builtin .len := by
      cases callee <;> simp [isLen] at hc
      rename_i b
      cases b <;> simp at hc
      rfl
    subst hcal
    split at he
    · rename_i x t hx ht
      split at he
      · rename_i ti u hti hu
        have hv := (pure1_some he).1
        have e1 : args = #[x] := Array.ext' (by simpa using one_some hx)
        have e2 : tys = #[t] := Array.ext' (by simpa using one_some ht)
        subst e1 e2
        unfold lenV at hv
        split at hv <;> simp only [Option.some.injEq, reduceCtorEq] at hv <;> subst hv <;> rename_i hd <;>
          simp [execOp, resolve, invoke, builtin, Builtin.len_, ev_eval hA hu, run_und (w := w) hT hti, hd, goInt]
      · cases he
    · cases he
  · cases he

theorem evStill_sound {ro : List RB} (hT : TabOK P T) (hA : Agree n a m) (hL : OwnL l w) (hR : ROK ro w) {o : Oper} {h : Nat} {v : Value} {xs : List Nat} {cs : List Cond}
    (he : evStill T m l ro o.op h = some ⟨v, xs, xs, cs⟩) (hcs : Conds cs) : (execOp a.eval o).run P w = .ok (.value v) w := by
  obtain ⟨dst, op, type, pos, after, guard⟩ := o
  simp only at he
  cases op <;> simp only [evStill] at he <;> try cases he
  case move x =>
    have := (pure1_some he).1
    simp [execOp, ev_eval hA this]
  case assign x =>
    have := (pure1_some he).1
    simp [execOp, ev_eval hA this]
  case pick c x y =>
    split at he
    · rename_i hc
      simp [execOp, ev_eval hA hc, asBool, ev_eval hA (pure1_some he).1]
    · rename_i hc
      simp [execOp, ev_eval hA hc, asBool, ev_eval hA (pure1_some he).1]
    · cases he
  case nilCheck x =>
    split at he
    · rename_i hx
      simp only [Option.some.injEq, Out.mk.injEq] at he
      obtain ⟨rfl, _⟩ := he
      simp [execOp, ev_eval hA hx]
    · rename_i hx
      simp only [Option.some.injEq, Out.mk.injEq] at he
      obtain ⟨rfl, _⟩ := he
      simp [execOp, ev_eval hA hx]
    · cases he
  case binOp op t x y yt =>
    split at he
    · rename_i u1 u2 ti h1 h2 ht
      have hv := (pureC_some he).1
      simp only [execOp, ev_eval hA h1, ev_eval hA h2, Sem.run_bind, run_eqGuard hv, Result.andThen_ok, run_binV (w := w) hT ht hv hcs, Sem.run_pure]
    · cases he
  case unOp op t x =>
    split at he
    · rename_i hx
      simp only [Option.some.injEq, Out.mk.injEq] at he
      simp [execOp, ev_eval hA hx, Op.unary, he.1]
    · rename_i hx
      simp only [Option.some.injEq, Out.mk.injEq] at he
      simp [execOp, ev_eval hA hx, Op.unary, Op.intArith, ← he.1]
    · cases he
  case convert s t x =>
    split at he
    · rename_i h1 h2 hx
      simp only [Option.some.injEq, Out.mk.injEq] at he
      simp only [execOp, ev_eval hA hx, convert, Sem.run_bind, run_und (w := w) hT h1, run_und (w := w) hT h2, Result.andThen_ok, Conv.intToInt, Sem.run_pure, he.1]
    · cases he
  case fieldAddr t x i =>
    split at he
    · rename_i f ti b o' hf hx
      by_cases hz : Nat.beq ti.size 0 = true
      · rw [hz] at he; cases he
      · rw [Bool.not_eq_true] at hz
        rw [hz] at he
        simp only [cond_false, Option.some.injEq, Out.mk.injEq] at he
        obtain ⟨sz, z, fs, ht, hfs, hft⟩ := fieldTI_some hf
        have hne : ti.size ≠ 0 := fun h => by rw [h] at hz; cases hz
        simp only [execOp, ev_eval hA hx, Instr.fieldAt, Sem.run_bind, run_und (w := w) hT ht, Result.andThen_ok, hfs, Instr.sureAddr, Sem.run_pure, fieldPlace, run_size (w := w) hT hft]
        rw [if_neg hne]
        simp only [Sem.run_pure, Result.andThen_ok, addr_add, he.1]
    · cases he
  case field t x i =>
    split at he
    · rename_i f ti cs hf hx
      have hv := (pure1_some he).1
      obtain ⟨sz, z, fs, ht, hfs, hft⟩ := fieldTI_some hf
      simp only [execOp, ev_eval hA hx, Instr.field, Sem.run_bind, run_und (w := w) hT ht, Result.andThen_ok, hfs, asAgg, Sem.run_pure, run_part (w := w) hT hft hv]
    · cases he
  case indexAddr t x ix =>
    split at he
    · rename_i sz z cnt e b o' k i ht hx hix
      split at he
      · rename_i ti hti
        simp only [Option.some.injEq, Out.mk.injEq] at he
        obtain ⟨rfl, _, _, rfl⟩ := he
        have hb := hcs.1
        simp only [Cond.holds] at hb
        simp only [execOp, ev_eval hA hx, ev_eval hA hix, Instr.indexAt, asIntOf, Sem.run_bind, run_und (w := w) hT ht, Result.andThen_ok, Instr.sureAddr, Sem.run_pure, hb, and_self, if_true,
          run_size (w := w) hT hti, addr_add]
      · cases he
    · rename_i sz z e b o' cnt cap k i ht hx hix
      split at he
      · rename_i ti hti
        simp only [Option.some.injEq, Out.mk.injEq] at he
        obtain ⟨rfl, _, _, rfl⟩ := he
        have hb := hcs.1
        simp only [Cond.holds] at hb
        simp only [execOp, ev_eval hA hx, ev_eval hA hix, Instr.indexAt, asIntOf, Sem.run_bind, run_und (w := w) hT ht, Result.andThen_ok, Sem.run_pure, hb, and_self, if_true,
          run_size (w := w) hT hti, addr_add]
      · cases he
    · cases he
  case index t x ix =>
    split at he
    · rename_i sz z cnt e cs k i ht hx hix
      split at he
      · rename_i ti hti
        split at he
        · rename_i u hv
          simp only [Option.some.injEq, Out.mk.injEq] at he
          obtain ⟨rfl, _, _, rfl⟩ := he
          have hb := hcs.1
          simp only [Cond.holds] at hb
          simp only [execOp, ev_eval hA hx, ev_eval hA hix, Instr.index, asIntOf, Sem.run_bind, run_und (w := w) hT ht, Result.andThen_ok, Sem.run_pure, hb, and_self, if_true,
            run_size (w := w) hT hti, run_part (w := w) hT hti hv]
        · cases he
      · cases he
    · rename_i sz z s k i ht hx hix
      simp only [Option.some.injEq, Out.mk.injEq] at he
      obtain ⟨rfl, _, _, rfl⟩ := he
      have hb := hcs.1
      simp only [Cond.holds] at hb
      have hlt : i.toNat < s.size := by omega
      have hs : s[i.toNat]? = some (s.data.toList.getD i.toNat 0) := by
        have hl : i.toNat < s.data.toList.length := by simpa using hlt
        rw [List.getD_eq_getElem?_getD, List.getElem?_eq_getElem hl]
        simp only [Option.getD_some]
        rw [getElem?_pos s i.toNat hlt]
        rfl
      simp only [execOp, ev_eval hA hx, ev_eval hA hix, Instr.index, asIntOf, Sem.run_bind, run_und (w := w) hT ht, Result.andThen_ok, Sem.run_pure, hb.1, if_true, hs]
    · cases he
  case load t x =>
    split at he
    · rename_i b o' hx
      split at he
      · rename_i u x1 y1 hl
        simp only [Option.some.injEq, Out.mk.injEq] at he
        obtain ⟨rfl, rfl, rfl, _⟩ := he
        simp only [execOp, ev_eval hA hx, Sem.run_bind, run_ldL hT hL hR hl, Result.andThen_ok, Sem.run_pure]
      · cases he
    · cases he
  case extract x i =>
    split at he
    · rename_i vs hx
      have hv := (pure1_some he).1
      rw [Array.getElem?_toList] at hv
      simp [execOp, ev_eval hA hx, Instr.extract, hv]
    · cases he
  case makeFunc fn u c =>
    split at he
    · rename_i us cs hu hc
      simp only [Option.some.injEq, Out.mk.injEq] at he
      have h1 : u.map a.eval = us.toArray := by apply Array.ext'; simpa using evAll_map hA hu
      have h2 : c.map a.eval = cs.toArray := by apply Array.ext'; simpa using evAll_map hA hc
      simp only [execOp, Instr.makeFunc, h1, h2, Sem.run_bind, Sem.run_pure, Result.andThen_ok, he.1]
    · cases he
  case build t ps =>
    split at he
    · rename_i vs hvs
      have hv := (pure1_some he).1
      have h1 : (ps.map fun p => (p.1, a.eval p.2)) = vs.toArray := by apply Array.ext'; simpa using evParts_map hA hvs
      simp only [execOp, h1, Sem.run_bind, run_build (w := w) hT hv, Result.andThen_ok, Sem.run_pure]
    · cases he
  case slice t x lo hi mx =>
    cases lo <;> cases hi <;> cases mx <;> simp only [] at he <;> try cases he
    · split at he
      · rename_i ti u ht hx
        simp only [execOp, ev_eval hA hx, Option.map_none, Sem.run_bind, run_sliceTo (w := w) hT ht he hcs, Result.andThen_ok, Sem.run_pure]
      · cases he
    · split at he
      · rename_i ti u q ht hx hq
        simp only [execOp, ev_eval hA hx, ev_eval hA hq, Option.map_none, Option.map_some, Sem.run_bind, run_sliceTo (w := w) hT ht he hcs, Result.andThen_ok, Sem.run_pure]
      · cases he
    · split at he
      · rename_i ti u q ht hx hq
        simp only [execOp, ev_eval hA hx, ev_eval hA hq, Option.map_none, Option.map_some, Sem.run_bind, run_sliceStr (w := w) hT ht he hcs, Result.andThen_ok, Sem.run_pure]
      · cases he
    · split at he
      · rename_i ti u q q' ht hx hq hq'
        simp only [execOp, ev_eval hA hx, ev_eval hA hq, ev_eval hA hq', Option.map_none, Option.map_some, Sem.run_bind, run_sliceStr (w := w) hT ht he hcs, Result.andThen_ok, Sem.run_pure]
      · cases he
  case call c => exact run_lenCall hT hA he

end sound
end Eng
end Go.YtmfkmoecbnghhaaDoor
