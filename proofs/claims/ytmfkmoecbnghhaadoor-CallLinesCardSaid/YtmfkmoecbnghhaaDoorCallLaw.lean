/- Syscalls' texts as rows of bytes: what is a text, and of which syscalls; each text is of one row alone. No program is in sight here. -/
import Derived.Lib.ItoaMem
import Derived.Lib.AtoiAll
import Derived.Lib.Atoi
import Derived.Lib.SplitLaws
namespace Go.YtmfkmoecbnghhaaDoor
namespace Law
open Go.Lib

/-! ### Numerals -/

abbrev Dig (b : UInt8) : Prop := 48 ≤ b.toNat ∧ b.toNat ≤ 57

theorem dig_of {d : Nat} (h : d < 10) : Dig (UInt8.ofNat (48 + d)) ∧ (UInt8.ofNat (48 + d)).toNat = 48 + d := by
  have : (UInt8.ofNat (48 + d)).toNat = 48 + d := by
    rw [UInt8.toNat_ofNat']; omega
  exact ⟨by unfold Dig; omega, this⟩

theorem dig_dec (u : Nat) : ∀ b ∈ decDigits u, Dig b := by
  induction u using Nat.strongRecOn with
  | _ u ih =>
    rw [decDigits]
    by_cases h : u < 10
    · rw [dif_pos h]
      intro b hb
      simp only [List.mem_singleton] at hb
      subst hb
      exact (dig_of h).1
    · rw [dif_neg h]
      intro b hb
      rcases List.mem_append.1 hb with hb | hb
      · exact ih (u / 10) (by omega) b hb
      · simp only [List.mem_singleton] at hb
        subst hb
        exact (dig_of (Nat.mod_lt _ (by omega))).1

theorem dec_ne (u : Nat) : decDigits u ≠ [] := by
  have := decDigits_length u
  have h := nDigits_pos u
  intro e
  rw [e] at this
  simp at this
  omega

theorem digitVal_dig {b : UInt8} (h : Dig b) : digitVal b = some (b.toNat - 48) := by unfold digitVal; rw [if_pos h]
theorem dig_digitVal {b : UInt8} {d : Nat} (h : digitVal b = some d) : Dig b ∧ d = b.toNat - 48 := by
  unfold digitVal at h
  split at h
  · rename_i hb
    simp only [Option.some.injEq] at h
    exact ⟨hb, h.symm⟩
  · cases h

theorem decFrom_app (l : List UInt8) : ∀ (acc : Nat) (r : List UInt8), decFrom acc (l ++ r) = (decFrom acc l).bind fun n => decFrom n r := by
  induction l with
  | nil => intro acc r; rfl
  | cons b l ih =>
    intro acc r
    simp only [List.cons_append, decFrom]
    cases hd : digitVal b with
    | none => rfl
    | some d => exact ih _ r

theorem decFrom_dig {l : List UInt8} : ∀ {acc n : Nat}, decFrom acc l = some n → ∀ b ∈ l, Dig b := by
  induction l with
  | nil => intro acc n _ b hb; cases hb
  | cons c l ih =>
    intro acc n h b hb
    simp only [decFrom] at h
    cases hd : digitVal c with
    | none => rw [hd] at h; cases h
    | some d =>
      rw [hd] at h
      rcases List.mem_cons.1 hb with rfl | hb
      · exact (dig_digitVal hd).1
      · exact ih h b hb

theorem decFrom_dec (u : Nat) : decFrom 0 (decDigits u) = some u := by
  induction u using Nat.strongRecOn with
  | _ u ih =>
    rw [decDigits]
    by_cases h : u < 10
    · rw [dif_pos h]
      have h1 := dig_of h
      simp only [decFrom, digitVal_dig h1.1, h1.2]
      simp
    · rw [dif_neg h, decFrom_app, ih (u / 10) (by omega)]
      have h1 := dig_of (d := u % 10) (Nat.mod_lt _ (by omega))
      simp only [Option.bind_some, decFrom, digitVal_dig h1.1, h1.2]
      congr 1
      omega

theorem dec_inj {u v : Nat} (h : decDigits u = decDigits v) : u = v := by
  have h1 := decFrom_dec u
  rw [h, decFrom_dec v] at h1
  exact (Option.some.inj h1).symm

theorem dec_take (u : Nat) : ∀ (j n : Nat), j < (decDigits u).length → decFrom 0 ((decDigits u).take j) = some n → n ≤ u / 10 := by
  induction u using Nat.strongRecOn with
  | _ u ih =>
    intro j n hj h
    by_cases h10 : u < 10
    · rw [decDigits, dif_pos h10] at hj h
      have : j = 0 := by simpa using hj
      subst this
      simp only [List.take_zero, decFrom, Option.some.injEq] at h
      omega
    · rw [decDigits, dif_neg h10] at hj h
      simp only [List.length_append, List.length_singleton] at hj
      rw [List.take_append_of_le_length (by omega)] at h
      rcases Nat.lt_or_ge j (decDigits (u / 10)).length with h1 | h1
      · have := ih (u / 10) (by omega) j n h1 h
        omega
      · rw [List.take_of_length_le (by omega), decFrom_dec] at h
        simp only [Option.some.injEq] at h
        omega

theorem itoa_chars (n : Int) : ∀ b ∈ itoa n, Dig b ∨ b = 45 := by
  unfold itoa
  intro b hb
  split at hb
  · rcases List.mem_cons.1 hb with rfl | hb
    · exact .inr rfl
    · exact .inl (dig_dec _ b hb)
  · exact .inl (dig_dec _ b hb)

theorem itoa_not {n : Int} {b : UInt8} (h : ¬ Dig b) (h2 : b ≠ 45) : b ∉ itoa n := fun hb => (itoa_chars n b hb).elim h h2

theorem not32 : ¬ Dig 32 := by unfold Dig; decide
theorem not10 : ¬ Dig 10 := by unfold Dig; decide
theorem not45 : ¬ Dig 45 := by unfold Dig; decide

theorem itoa_inj {m n : Int} (h : itoa m = itoa n) : m = n := by
  unfold itoa at h
  split at h <;> split at h
  · have := dec_inj (List.cons.inj h).2
    omega
  · exfalso
    have : (45 : UInt8) ∈ decDigits n.toNat := by rw [← h]; simp
    exact not45 (dig_dec _ _ this)
  · exfalso
    have : (45 : UInt8) ∈ decDigits m.toNat := by rw [h]; simp
    exact not45 (dig_dec _ _ this)
  · have := dec_inj h
    omega

/-- The numbers that a text may hold. -/
def Rg (k : Int) : Prop := -4611686018427387904 ≤ k ∧ k ≤ 4611686018427387904

theorem parse_dec (u : Nat) (h : u < 18446744073709551616) : parseUint10 0 (decDigits u) = .ok u := by
  have key : ∀ (l r : List UInt8) (acc n : Nat), parseUint10 acc l = .ok n → parseUint10 acc (l ++ r) = parseUint10 n r := by
    intro l r
    induction l with
    | nil => intro acc n h; simp only [parseUint10, NumEnd.ok.injEq] at h; subst h; rfl
    | cons c l ih =>
      intro acc n h
      simp only [parseUint10, List.cons_append] at h ⊢
      split at h
      · rename_i h1
        rw [if_pos h1]
        split at h
        · cases h
        · rename_i h2
          rw [if_neg h2]
          split at h
          · cases h
          · rename_i h3
            rw [if_neg h3]
            exact ih _ _ h
      · cases h
  induction u using Nat.strongRecOn with
  | _ u ih =>
    rw [decDigits]
    by_cases h10 : u < 10
    · rw [dif_pos h10]
      have h1 := dig_of h10
      simp only [parseUint10]
      rw [if_pos h1.1, h1.2, if_neg (by omega), if_neg (by omega)]
      congr 1
      omega
    · rw [dif_neg h10, key _ _ _ _ (ih (u / 10) (by omega) (by omega))]
      have h1 := dig_of (d := u % 10) (Nat.mod_lt _ (by omega))
      simp only [parseUint10]
      rw [if_pos h1.1, h1.2, if_neg (by omega), if_neg (by omega)]
      congr 1
      omega

theorem atoi_itoa (n : Int) (h : -9223372036854775808 ≤ n ∧ n ≤ 9223372036854775807) : atoiAll (itoa n) = .ok n := by
  unfold itoa
  by_cases hn : n < 0
  · rw [if_pos hn]
    unfold atoiAll
    have h2 : (45 : UInt8).toNat = 45 := by decide
    have hp := parse_dec n.natAbs (by omega)
    simp only [h2, or_true, if_true, parseMag, if_neg (dec_ne _), hp, not_true_eq_false, false_and, if_false, true_and]
    rw [if_neg (by omega)]
    congr 1
    omega
  · rw [if_neg hn]
    unfold atoiAll
    have hne := dec_ne n.toNat
    cases hd : decDigits n.toNat with
    | nil => exact absurd hd hne
    | cons c r =>
      have hc : Dig c := dig_dec n.toNat c (by rw [hd]; simp)
      unfold Dig at hc
      have h1 : ¬ (c.toNat = 43 ∨ c.toNat = 45) := by omega
      have h2 : ¬ c.toNat = 45 := by omega
      have hp := parse_dec n.toNat (by omega)
      rw [hd] at hp
      have h3 : ¬ c.toNat = 43 := by omega
      simp only [h3, h2, or_false, if_false, parseMag, reduceCtorEq, hp, not_false_eq_true, true_and, false_and]
      rw [if_neg (by omega)]
      congr 1
      omega

/-! ### What is read of a number -/

structure NumJ (l : List UInt8) (p q i n : Nat) (bel : Bool) : Prop where
  start : q = if bel then p + 1 else p
  sign : bel = true ↔ l[p]? = some 45
  le : q ≤ i
  len : i ≤ l.length
  val : decFrom 0 ((l.drop q).take (i - q)) = some n

def Stops (l : List UInt8) (i n : Nat) : Prop := l.length ≤ i ∨ ¬ Dig (l.getD i 0) ∨ 461168601842738791 < n

def signed (bel : Bool) (n : Nat) : Int := if bel then -(n : Int) else n

theorem num_cert {l : List UInt8} {p q i n : Nat} {bel : Bool} (J : NumJ l p q i n bel) (hs : Stops l i n) {e : UInt8} (he : ¬ Dig e) {k : Int} {t : List UInt8} (hk : Rg k) (h : l.drop p = itoa k ++ e :: t) :
    i = p + (itoa k).length ∧ signed bel n = k ∧ l[i]? = some e := by
  have hp : p < l.length := by
    rcases Nat.lt_or_ge p l.length with h1 | h1
    · exact h1
    · rw [List.drop_eq_nil_of_le h1] at h
      have := congrArg List.length h
      simp at this
  have hh : l[p]? = (itoa k ++ e :: t)[0]? := by rw [← h, List.getElem?_drop]; rfl
  have hbel : bel = true ↔ k < 0 := by
    rw [J.sign, hh]
    unfold itoa
    by_cases hn : k < 0
    · rw [if_pos hn]; simp [hn]
    · rw [if_neg hn]
      cases hd : decDigits k.toNat with
      | nil => exact absurd hd (dec_ne _)
      | cons c r =>
        have hc : Dig c := dig_dec k.toNat c (by rw [hd]; simp)
        simp only [List.cons_append, List.getElem?_cons_zero, Option.some.injEq, hn, iff_false]
        rintro rfl
        exact not45 hc
  have hq : l.drop q = decDigits k.natAbs ++ e :: t := by
    rw [J.start]
    cases bel with
    | true =>
      have hn := hbel.1 rfl
      simp only [if_true]
      rw [← List.drop_drop, h]
      unfold itoa
      rw [if_pos hn]
      rfl
    | false =>
      have hn : ¬ k < 0 := fun hn => by have := hbel.2 hn; cases this
      simp only [Bool.false_eq_true, if_false]
      rw [h]
      unfold itoa
      rw [if_neg hn]
      congr 2
      omega
  have hlq : q + (decDigits k.natAbs).length < l.length := by
    have := congrArg List.length hq
    rw [List.length_drop, List.length_append] at this
    simp only [List.length_cons] at this
    omega
  have hval := J.val
  rw [hq] at hval
  have hle := J.le
  have hat : ∀ j, j < (decDigits k.natAbs).length → l[q + j]? = (decDigits k.natAbs)[j]? := fun j hj => by
    rw [← List.getElem?_drop, hq, List.getElem?_append_left hj]
  have hmid : l[q + (decDigits k.natAbs).length]? = some e := by
    rw [← List.getElem?_drop, hq, List.getElem?_append_right (Nat.le_refl _)]
    simp
  have h1 : i - q ≤ (decDigits k.natAbs).length := by
    rcases Nat.lt_or_ge (decDigits k.natAbs).length (i - q) with h2 | h2
    · exfalso
      have hm : e ∈ (decDigits k.natAbs ++ e :: t).take (i - q) := by
        rw [List.take_append]
        refine List.mem_append_right _ ?_
        rw [show i - q - (decDigits k.natAbs).length = (i - q - (decDigits k.natAbs).length - 1) + 1 from by omega, List.take_succ_cons]
        simp
      exact he (decFrom_dig hval e hm)
    · exact h2
  rw [List.take_append_of_le_length h1] at hval
  have hlen : i - q = (decDigits k.natAbs).length := by
    rcases Nat.lt_or_ge (i - q) (decDigits k.natAbs).length with h2 | h2
    · exfalso
      have hn := dec_take _ _ _ h2 hval
      have h3 := hat (i - q) h2
      rw [show q + (i - q) = i from by omega, List.getElem?_eq_getElem h2] at h3
      rcases hs with hs | hs | hs
      · omega
      · apply hs
        rw [List.getD_eq_getElem?_getD, h3]
        exact dig_dec _ _ (List.getElem_mem h2)
      · unfold Rg at hk; omega
    · omega
  rw [hlen, List.take_length, decFrom_dec] at hval
  simp only [Option.some.injEq] at hval
  have hi : i = q + (decDigits k.natAbs).length := by omega
  refine ⟨?_, ?_, by rw [hi]; exact hmid⟩
  · rw [hi, J.start]
    cases bel with
    | true =>
      have hn := hbel.1 rfl
      unfold itoa; rw [if_pos hn]
      simp
      omega
    | false =>
      have hn : ¬ k < 0 := fun hn => by have := hbel.2 hn; cases this
      unfold itoa; rw [if_neg hn, show k.toNat = k.natAbs from by omega]
      simp
  · unfold signed
    cases bel with
    | true => have hn := hbel.1 rfl; simp only [if_true]; omega
    | false =>
      have hn : ¬ k < 0 := fun hn => by have := hbel.2 hn; cases this
      simp only [Bool.false_eq_true, if_false]; omega

/-- What a number's reading comes to. -/
def NumR (l : List UInt8) (p : Nat) (e : UInt8) (k r : Int) : Prop :=
  (∃ t, l.drop p = itoa k ++ e :: t ∧ Rg k ∧ r = ((p + (itoa k).length + 1 : Nat) : Int)) ∨ ((∀ k t, Rg k → l.drop p ≠ itoa k ++ e :: t) ∧ k = 0 ∧ r = -1)

theorem num_no {l : List UInt8} {p q i n : Nat} {bel : Bool} (J : NumJ l p q i n bel) (hs : Stops l i n) {e : UInt8} (he : ¬ Dig e)
    (h : l.length ≤ i ∨ l.getD i 0 ≠ e ∨ ¬ Rg (signed bel n) ∨ itoa (signed bel n) ≠ (l.take i).drop p) : NumR l p e 0 (-1) := by
  refine .inr ⟨fun k t hk hl => ?_, rfl, rfl⟩
  obtain ⟨h1, h2, h3⟩ := num_cert J hs he hk hl
  have hlt := (List.getElem?_eq_some_iff.1 h3).1
  rcases h with h | h | h | h
  · omega
  · apply h; rw [List.getD_eq_getElem?_getD, h3]; rfl
  · rw [h2] at h; exact h hk
  · apply h
    rw [h2, List.drop_take, hl, h1, show p + (itoa k).length - p = (itoa k).length from by omega, List.take_left]

theorem num_yes {l : List UInt8} {p q i n : Nat} {bel : Bool} (J : NumJ l p q i n bel) {e : UInt8} (h1 : i < l.length) (h2 : l.getD i 0 = e) (h3 : Rg (signed bel n)) (h4 : itoa (signed bel n) = (l.take i).drop p) :
    NumR l p e (signed bel n) ((i + 1 : Nat) : Int) := by
  have hp : p ≤ i := by have := J.start; have := J.le; cases bel <;> simp_all <;> omega
  have hlen : (itoa (signed bel n)).length = i - p := by rw [h4, List.length_drop, List.length_take]; omega
  refine .inl ⟨l.drop (i + 1), ?_, h3, by rw [hlen]; omega⟩
  have h5 : l[i]? = some e := by rw [List.getD_eq_getElem?_getD, List.getElem?_eq_getElem h1] at h2; rw [List.getElem?_eq_getElem h1]; simpa using h2
  have h6 : l.drop i = e :: l.drop (i + 1) := by
    rw [List.drop_eq_getElem_cons h1]
    rw [List.getElem?_eq_getElem h1] at h5
    simp only [Option.some.injEq] at h5
    rw [h5]
  rw [h4, List.drop_take, ← h6]
  have := List.take_append_drop (i - p) (l.drop p)
  rw [List.drop_drop, show p + (i - p) = i from by omega] at this
  exact this.symm

theorem num_start {l : List UInt8} {p : Nat} (hp : p ≤ l.length) (bel : Bool) (h : bel = true ↔ l[p]? = some 45) (hb : bel = true → p + 1 ≤ l.length) : NumJ l p (if bel then p + 1 else p) (if bel then p + 1 else p) 0 bel :=
  ⟨rfl, h, Nat.le_refl _, by cases bel; exact hp; exact hb rfl, by simp [decFrom]⟩

theorem num_next {l : List UInt8} {p q i n : Nat} {bel : Bool} (J : NumJ l p q i n bel) (h1 : i < l.length) (h2 : 48 ≤ (l.getD i 0).toNat ∧ (l.getD i 0).toNat ≤ 57) : NumJ l p q (i + 1) (10 * n + ((l.getD i 0).toNat - 48)) bel := by
  refine ⟨J.start, J.sign, by have := J.le; omega, h1, ?_⟩
  have hle := J.le
  rw [show i + 1 - q = (i - q) + 1 from by omega]
  have hb : (l.drop q)[i - q]? = some (l.getD i 0) := by
    rw [List.getElem?_drop, show q + (i - q) = i from by omega, List.getD_eq_getElem?_getD, List.getElem?_eq_getElem h1]
    rfl
  rw [decFrom_take (l.drop q) (i - q) 0 n (l.getD i 0) _ J.val hb (digitVal_dig h2), Nat.mul_comm]

/-! ### Syscalls -/

/-- A syscall. -/
structure Sc where
  no : Int
  a : Int
  b : Int
deriving DecidableEq

def wordsL : List (List UInt8) := [[115, 101, 110, 100], [114, 101, 99, 118], [116, 114, 121], [112, 117, 116], [108, 111, 111, 107], [99, 117, 116], [115, 101, 116], [114, 101, 115, 101, 116], [116, 101, 115, 116], [121, 105, 101, 108, 100]]
def wordL (k : Nat) : List UInt8 := wordsL.getD k []

/-- Has a syscall a text? -/
def Wr (c : Sc) : Prop := (0 ≤ c.no ∧ c.no ≤ 9) ∧ Rg c.a ∧ Rg c.b

instance (k : Int) : Decidable (Rg k) := inferInstanceAs (Decidable (_ ∧ _))
instance (c : Sc) : Decidable (Wr c) := inferInstanceAs (Decidable (_ ∧ _))

/-- A syscall's text. -/
def scL (c : Sc) : List UInt8 := wordL c.no.toNat ++ 32 :: (itoa c.a ++ 32 :: (itoa c.b ++ [10]))

def printL : List Sc → List UInt8
  | [] => []
  | c :: r => scL c ++ printL r

theorem printL_app (l m : List Sc) : printL (l ++ m) = printL l ++ printL m := by
  induction l with
  | nil => rfl
  | cons c l ih => simp [printL, ih]

theorem cut_at {a : UInt8} {x y r t : List UInt8} (hx : a ∉ x) (hy : a ∉ y) (h : x ++ a :: r = y ++ a :: t) : x = y ∧ r = t := by
  induction x generalizing y with
  | nil =>
    cases y with
    | nil => simpa using h
    | cons b y => simp only [List.nil_append, List.cons_append, List.cons.injEq] at h; exact absurd (h.1 ▸ List.mem_cons_self ..) hy
  | cons b x ih =>
    cases y with
    | nil => simp only [List.nil_append, List.cons_append, List.cons.injEq] at h; exact absurd (h.1 ▸ List.mem_cons_self ..) hx
    | cons c y =>
      simp only [List.cons_append, List.cons.injEq] at h
      have := ih (fun hb => hx (by simp [hb])) (fun hb => hy (by simp [hb])) h.2
      exact ⟨by rw [h.1, this.1], this.2⟩

theorem word_plain : ∀ k, k < 10 → (32 : UInt8) ∉ wordL k ∧ (10 : UInt8) ∉ wordL k := by decide
theorem word_inj : ∀ j, j < 10 → ∀ k, k < 10 → wordL j = wordL k → j = k := by decide

theorem sc_lf {c : Sc} (h : Wr c) : (10 : UInt8) ∉ wordL c.no.toNat ++ 32 :: (itoa c.a ++ 32 :: itoa c.b) := by
  have h0 := h.1
  have h1 := (word_plain c.no.toNat (by omega)).2
  have h2 := itoa_not (n := c.a) not10 (by decide)
  have h3 := itoa_not (n := c.b) not10 (by decide)
  simp [h1, h2, h3]

theorem scL_eq (c : Sc) : scL c = (wordL c.no.toNat ++ 32 :: (itoa c.a ++ 32 :: itoa c.b)) ++ [10] := by simp [scL]

theorem sc_cut {c d : Sc} (hc : Wr c) (hd : Wr d) {x y : List UInt8} (h : scL c ++ x = scL d ++ y) : c = d ∧ x = y := by
  have h' : (wordL c.no.toNat ++ 32 :: (itoa c.a ++ 32 :: itoa c.b)) ++ 10 :: x = (wordL d.no.toNat ++ 32 :: (itoa d.a ++ 32 :: itoa d.b)) ++ 10 :: y := by
    rw [scL_eq, scL_eq] at h
    simpa using h
  obtain ⟨h1, h2⟩ := cut_at (sc_lf hc) (sc_lf hd) h'
  have hc0 := hc.1
  have hd0 := hd.1
  obtain ⟨h3, h4⟩ := cut_at (word_plain _ (by omega)).1 (word_plain _ (by omega)).1 h1
  obtain ⟨h5, h6⟩ := cut_at (itoa_not not32 (by decide)) (itoa_not not32 (by decide)) h4
  have e1 := word_inj _ (by omega) _ (by omega) h3
  have e2 := itoa_inj h5
  have e3 := itoa_inj h6
  refine ⟨?_, h2⟩
  cases c; cases d
  simp only at e1 e2 e3 hc0 hd0
  congr 1
  omega

/-- s is the texts of cs, and r behind them, which begins with no syscall's text. -/
structure Split (s : List UInt8) (cs : List Sc) (r : List UInt8) : Prop where
  wr : ∀ c ∈ cs, Wr c
  eq : s = printL cs ++ r
  stop : ∀ c, Wr c → ∀ t, r ≠ scL c ++ t

theorem Split.one {s : List UInt8} {cs cs' : List Sc} {r r' : List UInt8} (h : Split s cs r) (h' : Split s cs' r') : cs = cs' ∧ r = r' := by
  obtain ⟨hw, he, hs⟩ := h
  obtain ⟨hw', he', hs'⟩ := h'
  induction cs generalizing s cs' with
  | nil =>
    cases cs' with
    | nil => exact ⟨rfl, by simpa [printL] using he.symm.trans he'⟩
    | cons d ds =>
      exfalso
      apply hs d (hw' d (by simp)) (printL ds ++ r')
      have := he.symm.trans he'
      simpa [printL] using this
  | cons c cs ih =>
    cases cs' with
    | nil =>
      exfalso
      apply hs' c (hw c (by simp)) (printL cs ++ r)
      have := he'.symm.trans he
      simpa [printL] using this
    | cons d ds =>
      have := he.symm.trans he'
      simp only [printL, List.append_assoc] at this
      obtain ⟨rfl, h2⟩ := sc_cut (hw c (by simp)) (hw' d (by simp)) this
      obtain ⟨h3, h4⟩ := ih (s := printL cs ++ r) (fun c hc => hw c (by simp [hc])) rfl (fun c hc => hw' c (by simp [hc])) h2
      exact ⟨by rw [h3], h4⟩

theorem Split.app {s : List UInt8} {cs l : List Sc} {r : List UInt8} (h : Split s cs r) (hl : ∀ c ∈ l, Wr c) : Split (printL l ++ s) (l ++ cs) r :=
  ⟨fun c hc => (List.mem_append.1 hc).elim (hl c) (h.wr c), by rw [printL_app, h.eq, List.append_assoc], h.stop⟩

theorem scL_ne (c : Sc) : scL c ≠ [] := by rw [scL_eq]; simp

theorem Split.nil : Split [] [] [] := by
  refine ⟨(fun c hc => by cases hc), rfl, ?_⟩
  · intro c _ t h
    have h1 := congrArg List.length h
    have h2 : (scL c).length ≠ 0 := fun e => scL_ne c (List.eq_nil_of_length_eq_zero e)
    simp only [List.length_nil, List.length_append] at h1
    omega

theorem Split.print {l : List Sc} (hl : ∀ c ∈ l, Wr c) : Split (printL l) l [] := by
  have := Split.nil.app hl
  simpa using this

theorem printL_inj {l m : List Sc} (hl : ∀ c ∈ l, Wr c) (hm : ∀ c ∈ m, Wr c) (h : printL l = printL m) : l = m :=
  (Split.one (Split.print hl) (h ▸ Split.print hm)).1

theorem count_lf {c : Sc} (h : Wr c) : (scL c).count 10 = 1 := by
  rw [scL_eq, List.count_append, List.count_eq_zero_of_not_mem (sc_lf h)]
  simp

theorem count_blank {c : Sc} (h : Wr c) : (scL c).count 32 = 2 := by
  have h0 := h.1
  have h1 := (word_plain c.no.toNat (by omega)).1
  have h2 := itoa_not (n := c.a) not32 (by decide)
  have h3 := itoa_not (n := c.b) not32 (by decide)
  unfold scL
  simp [List.count_append, List.count_eq_zero_of_not_mem h1, List.count_eq_zero_of_not_mem h2, List.count_eq_zero_of_not_mem h3]

/-- The one syscall whose text stands at a row's begin. -/
def OneR (l : List UInt8) (p : Nat) (c : Sc) (r : Int) : Prop :=
  (Wr c ∧ ∃ t, l.drop p = scL c ++ t ∧ r = ((p + (scL c).length : Nat) : Int)) ∨ ((∀ d, Wr d → ∀ t, l.drop p ≠ scL d ++ t) ∧ r = -1)

theorem one_word {l : List UInt8} {p k : Nat} {c : Sc} {t : List UInt8} (hc : Wr c) (h : l.drop p = scL c ++ t) (hk : k < 10) : ((l.take (p + (wordL k ++ [32]).length)).drop p = wordL k ++ [32]) ↔ k = c.no.toNat := by
  have h0 := hc.1
  rw [List.drop_take, h, Nat.add_sub_cancel_left]
  constructor
  · intro e
    have h1 := (word_plain k hk).1
    have h2 := (word_plain c.no.toNat (by omega)).1
    have e2 := List.take_append_drop (wordL k ++ [32]).length (scL c ++ t)
    rw [e] at e2
    unfold scL at e2
    simp only [List.append_assoc, List.cons_append, List.nil_append] at e2
    exact word_inj _ hk _ (by omega) (cut_at h1 h2 e2).1
  · rintro rfl
    unfold scL
    rw [show wordL c.no.toNat ++ 32 :: (itoa c.a ++ 32 :: (itoa c.b ++ [10])) ++ t = (wordL c.no.toNat ++ [32]) ++ (itoa c.a ++ 32 :: (itoa c.b ++ [10]) ++ t) from by simp, List.take_left]

/-- The word stands there, and no number, or but one. -/
theorem NumR.neg {l : List UInt8} {p : Nat} {e : UInt8} {x r : Int} (h : NumR l p e x r) (hr : r < 0) : r = -1 := by
  rcases h with ⟨_, _, _, h⟩ | ⟨_, _, h⟩ <;> omega

theorem NumR.le {l : List UInt8} {p : Nat} {e : UInt8} {x r : Int} (h : NumR l p e x r) : r ≤ l.length ∧ (0 ≤ r → Rg x) := by
  rcases h with ⟨t, h1, h2, h⟩ | ⟨_, _, h⟩
  · have := congrArg List.length h1
    rw [List.length_drop, List.length_append] at this
    simp only [List.length_cons] at this
    exact ⟨by omega, fun _ => h2⟩
  · exact ⟨by omega, fun _ => by omega⟩

theorem NumR.rg {l : List UInt8} {p : Nat} {e : UInt8} {x r : Int} (h : NumR l p e x r) : Rg x := by
  rcases h with ⟨t, h1, h2, h⟩ | ⟨_, h, _⟩
  · exact h2
  · subst h; unfold Rg; omega

theorem one_no {l : List UInt8} {p k : Nat} {x r : Int} {c : Sc} (hr : r < 0) (hk : k < 10) (hw : (l.take (p + (wordL k ++ [32]).length)).drop p = wordL k ++ [32])
    (h : NumR l (p + (wordL k ++ [32]).length) 32 x r) : OneR l p c (-1) := by
  have hr' := h.neg hr
  subst hr'
  refine .inr ⟨fun d hd t ht => ?_, rfl⟩
  have e := (one_word hd ht hk).1 hw
  rcases h with ⟨t', h1, h2, h3⟩ | ⟨h1, _⟩
  · omega
  · apply h1 d.a (itoa d.b ++ [10] ++ t) hd.2.1
    rw [← List.drop_drop, ht, e]
    unfold scL
    rw [show wordL d.no.toNat ++ 32 :: (itoa d.a ++ 32 :: (itoa d.b ++ [10])) ++ t = (wordL d.no.toNat ++ [32]) ++ (itoa d.a ++ 32 :: (itoa d.b ++ [10] ++ t)) from by simp, List.drop_left]

theorem one_yes {l : List UInt8} {p k : Nat} {x y m r : Int} (hk : k < 10) (hw : (l.take (p + (wordL k ++ [32]).length)).drop p = wordL k ++ [32])
    (h : NumR l (p + (wordL k ++ [32]).length) 32 x m) (hm : 0 ≤ m) (h2 : NumR l m.toNat 10 y r) :
    OneR l p ⟨k, x, y⟩ r := by
  rcases h with ⟨t', h1, hx, h3⟩ | ⟨_, _, h1⟩
  · have hd : l.drop m.toNat = t' := by
      rw [h3, Int.toNat_natCast, ← List.drop_drop, ← List.drop_drop, h1, List.drop_left]
      rfl
    have hp : l.drop p = wordL k ++ 32 :: (itoa x ++ 32 :: t') := by
      have e2 := List.take_append_drop (wordL k ++ [32]).length (l.drop p)
      rw [List.drop_drop, h1] at e2
      rw [← e2]
      have e3 := hw
      rw [List.drop_take, Nat.add_sub_cancel_left] at e3
      rw [e3]
      simp
    rcases h2 with ⟨t, h4, hy, h5⟩ | ⟨h4, h6, h5⟩
    · rw [hd] at h4
      refine .inl ⟨⟨⟨by simp, by simp; omega⟩, hx, hy⟩, t, ?_, ?_⟩
      · rw [hp, h4]; simp [scL]
      · rw [h5, h3]; simp [scL]; omega
    · refine .inr ⟨fun d hdw t ht => ?_, h5⟩
      have e := (one_word hdw ht hk).1 hw
      rw [hp] at ht
      unfold scL at ht
      rw [e] at ht
      rw [List.append_assoc] at ht
      have h7 := List.append_cancel_left ht
      simp only [List.cons_append, List.cons.injEq, true_and, List.append_assoc] at h7
      have h8 := cut_at (itoa_not not32 (by decide)) (itoa_not not32 (by decide)) h7
      exact h4 d.b t hdw.2.2 (by rw [hd, h8.2]; simp)
  · omega

theorem word_len : ∀ k, k < 10 → (wordL k).length ≤ 5 := by decide

theorem one_none {l : List UInt8} {p : Nat} {c : Sc} (h : ∀ k, k < 10 → ¬ ((l.take (p + (wordL k ++ [32]).length)).drop p = wordL k ++ [32])) : OneR l p c (-1) :=
  .inr ⟨fun d hd t ht => h d.no.toNat (by have := hd.1; omega) ((one_word hd ht (by have := hd.1; omega)).2 rfl), rfl⟩

/-! ### A text cut at its blanks -/

theorem index_not {c : UInt8} : ∀ {x : List UInt8}, c ∉ x → index x [c] = -1
  | [], _ => rfl
  | b :: x, h => by
    have h1 : ¬ c = b := fun e => h (by simp [e])
    have h2 : index x [c] = -1 := index_not fun hb => h (by simp [hb])
    unfold index
    simp [List.isPrefixOf, h1, h2]

theorem index_at {c : UInt8} (r : List UInt8) : ∀ {x : List UInt8}, c ∉ x → index (x ++ c :: r) [c] = x.length
  | [], _ => by unfold index; simp [List.isPrefixOf]
  | b :: x, h => by
    have h1 : ¬ c = b := fun e => h (by simp [e])
    have h2 : index (x ++ c :: r) [c] = x.length := index_at r fun hb => h (by simp [hb])
    rw [List.cons_append]
    unfold index
    simp [List.isPrefixOf, h1, h2]

theorem split_none {c : UInt8} {x : List UInt8} (h : c ∉ x) : split x [c] = [x] := by
  unfold split
  rw [count_miss (index_not h)]
  rfl

theorem split_at {c : UInt8} {x : List UInt8} (r : List UInt8) (h : c ∉ x) : split (x ++ c :: r) [c] = x :: split r [c] := by
  have h1 := index_at r h
  have hd : (x ++ c :: r).drop (x.length + [c].length) = r := by
    rw [show x ++ c :: r = (x ++ [c]) ++ r from by simp]
    exact List.drop_left' (by simp)
  unfold split
  rw [count_hit (by simp) h1, hd, Nat.add_comm 1, splitK, if_neg (by rw [h1]; simp), h1]
  simp only [Int.toNat_natCast]
  rw [hd, Nat.add_zero, List.take_left]

theorem cut_exists (c : UInt8) (l : List UInt8) : c ∉ l ∨ ∃ x r, c ∉ x ∧ l = x ++ c :: r := by
  induction l with
  | nil => exact .inl (by simp)
  | cons b l ih =>
    by_cases h : b = c
    · exact .inr ⟨[], l, by simp, by simp [h]⟩
    · rcases ih with h1 | ⟨x, r, h1, h2⟩
      · exact .inl (by simp [h1, Ne.symm h])
      · exact .inr ⟨b :: x, r, by simp [h1, Ne.symm h], by simp [h2]⟩

theorem split_three {c : UInt8} {l p q r : List UInt8} (h : split l [c] = [p, q, r]) : l = p ++ c :: (q ++ c :: r) := by
  rcases cut_exists c l with h0 | ⟨x, l1, h0, rfl⟩
  · rw [split_none h0] at h; simp at h
  · rw [split_at l1 h0] at h
    rcases cut_exists c l1 with h2 | ⟨y, l2, h2, rfl⟩
    · rw [split_none h2] at h; simp at h
    · rw [split_at l2 h2] at h
      rcases cut_exists c l2 with h3 | ⟨z, l3, h3, rfl⟩
      · rw [split_none h3] at h
        simp only [List.cons.injEq, and_true] at h
        rw [h.1, h.2.1, h.2.2]
      · rw [split_at l3 h3] at h
        rcases cut_exists c l3 with h4 | ⟨z, l4, h4, rfl⟩
        · rw [split_none h4] at h; simp at h
        · rw [split_at l4 h4] at h; simp at h

theorem split_sc {c : Sc} (h : Wr c) : split (wordL c.no.toNat ++ 32 :: (itoa c.a ++ 32 :: itoa c.b)) [32] = [wordL c.no.toNat, itoa c.a, itoa c.b] := by
  rw [split_at _ (word_plain _ (by have := h.1; omega)).1, split_at _ (itoa_not not32 (by decide)), split_none (itoa_not not32 (by decide))]

theorem suffix_lf (l : List UInt8) : (hasSuffix l [10] = true ∧ l = trimSuffix l [10] ++ [10]) ∨ (hasSuffix l [10] = false ∧ ∀ x, l ≠ x ++ [10]) := by
  cases h : hasSuffix l [10]
  · refine .inr ⟨rfl, fun x e => ?_⟩
    subst e
    unfold hasSuffix at h
    rw [← Bool.not_eq_true, List.isSuffixOf_iff_suffix] at h
    exact h (List.suffix_append _ _)
  · refine .inl ⟨rfl, ?_⟩
    have h' := h
    unfold hasSuffix at h
    rw [List.isSuffixOf_iff_suffix] at h
    obtain ⟨x, rfl⟩ := h
    unfold trimSuffix
    rw [if_pos h']
    simp

/-- What a line's reading comes to. -/
def LineR (l : List UInt8) (c : Sc) (ok : Bool) : Prop := (ok = true → l = scL c ∧ Wr c) ∧ (ok = false → ∀ d, Wr d → l ≠ scL d)

theorem line_no {l : List UInt8} {c : Sc} (h : hasSuffix l [10] = false ∨ (split (trimSuffix l [10]) [32]).length ≠ 3) : LineR l c false := by
  refine ⟨fun h => absurd h (by decide), fun _ d hd e => ?_⟩
  rcases suffix_lf l with ⟨h1, h2⟩ | ⟨h1, h2⟩
  · rcases h with h | h
    · rw [h1] at h; cases h
    · apply h
      have : trimSuffix l [10] = wordL d.no.toNat ++ 32 :: (itoa d.a ++ 32 :: itoa d.b) := by
        rw [scL_eq, h2] at e
        exact List.append_cancel_right e
      rw [this, split_sc hd]
      rfl
  · exact h2 _ (e.trans (scL_eq d))

/-- What a number's reading comes to. -/
def NumI (l : List UInt8) (n : Int) (ok : Bool) : Prop := (ok = true → l = itoa n ∧ Rg n) ∧ (ok = false → ∀ k, Rg k → l ≠ itoa k)

theorem line_yes {l : List UInt8} {p q r : List UInt8} {k a b : Int} {oa ob : Bool} (hs : hasSuffix l [10] = true) (h : split (trimSuffix l [10]) [32] = [p, q, r])
    (hk : (0 ≤ k ∧ k ≤ 9 ∧ wordL k.toNat = p) ∨ (k = -1 ∧ ∀ j, j < 10 → wordL j ≠ p)) (ha : NumI q a oa) (hb : NumI r b ob) (ok : Bool) (hok : ok = (decide (0 ≤ k) && (oa && ob))) : LineR l ⟨k, a, b⟩ ok := by
  have hl : l = p ++ 32 :: (q ++ 32 :: (r ++ [10])) := by
    rcases suffix_lf l with ⟨_, h2⟩ | ⟨h1, _⟩
    · rw [h2, split_three h]; simp
    · rw [h1] at hs; cases hs
  have hcut : ∀ d, Wr d → l = scL d → p = wordL d.no.toNat ∧ q = itoa d.a ∧ r = itoa d.b := by
    intro d hd e
    have : trimSuffix l [10] = wordL d.no.toNat ++ 32 :: (itoa d.a ++ 32 :: itoa d.b) := by
      rcases suffix_lf l with ⟨_, h2⟩ | ⟨h1, _⟩
      · rw [scL_eq, h2] at e
        exact List.append_cancel_right e
      · rw [h1] at hs; cases hs
    rw [this, split_sc hd] at h
    simp only [List.cons.injEq, and_true] at h
    exact ⟨h.1.symm, h.2.1.symm, h.2.2.symm⟩
  subst hok
  refine ⟨fun h1 => ?_, fun h1 d hd e => ?_⟩
  · simp only [Bool.and_eq_true, decide_eq_true_eq] at h1
    obtain ⟨ha1, ha2⟩ := ha.1 h1.2.1
    obtain ⟨hb1, hb2⟩ := hb.1 h1.2.2
    rcases hk with ⟨h2, h3, h4⟩ | ⟨h2, _⟩
    · refine ⟨?_, ⟨h2, h3⟩, ha2, hb2⟩
      rw [hl, ha1, hb1, ← h4]
      rfl
    · omega
  · obtain ⟨e1, e2, e3⟩ := hcut d hd e
    have h0 := hd.1
    rcases hk with ⟨h2, _, _⟩ | ⟨_, h3⟩
    · simp only [h2, decide_true, Bool.true_and] at h1
      cases ha0 : oa
      · subst ha0; exact ha.2 rfl d.a hd.2.1 e2
      · rw [ha0] at h1
        simp only [Bool.true_and] at h1
        subst h1
        exact hb.2 rfl d.b hd.2.2 e3
    · exact h3 d.no.toNat (by omega) e1.symm

theorem num_impl {l : List UInt8} {n : Int} {ok : Bool} (h1 : ok = true → l = itoa n ∧ Rg n) (h2 : ∀ k, Rg k → l = itoa k → ok = true) : NumI l n ok :=
  ⟨h1, fun h k hk e => by have := h2 k hk e; rw [h] at this; cases this⟩

end Law
end Go.YtmfkmoecbnghhaaDoor
