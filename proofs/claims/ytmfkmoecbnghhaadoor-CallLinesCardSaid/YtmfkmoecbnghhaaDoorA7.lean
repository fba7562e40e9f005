/- Contracts of functions, over the symbolic executor: each comes to what its theorem says. Written by gen.py, a program of this work. -/
import Derived.Test.YtmfkmoecbnghhaaDoorA6
import Derived.Test.YtmfkmoecbnghhaaDoorShelf
import Derived.Test.YtmfkmoecbnghhaaDoorEngM
import Derived.Lib.SplitLaws
namespace Go.YtmfkmoecbnghhaaDoor
open Go Eng Go.Proofs Law
set_option linter.unusedVariables false
set_option linter.unusedSimpArgs false

open Go.RowKit in
/-- What the library reads of its package-level variables. -/
structure Glob (S : Nat → Prop) (w : World) : Prop where
  s : ∀ g, g < 8 → S g
  tab : Lib.TabIs Tryd.prog w "internal/strconv.uint64pow10" .u64 Lib.pow10Tab
  e1 : ∃ tp p, w.var? Tryd.prog "strconv.ErrSyntax" = some #[.iface tp p]
  e2 : ∃ tp p, w.var? Tryd.prog "strconv.ErrRange" = some #[.iface tp p]
  ml : ∃ m, w.cell? ⟨0, 0, none⟩ = some (.int .i64 m)

theorem var_same {w w' : World} {name : String} {g : Nat} (hg : Tryd.prog.globalNamed name = some g) (h : w'.heap[g]? = w.heap[g]?) : w'.var? Tryd.prog name = w.var? Tryd.prog name := by
  simp only [World.var?, hg, Option.bind_some, h]

theorem Glob.ext {S S' : Nat → Prop} {w w' : World} (h : Glob S w) (hx : Ext S w S' w') : Glob S' w' := by
  have hb : ∀ g, g < 8 → w'.heap[g]? = w.heap[g]? := fun g hg => hx.same g (h.s g hg)
  refine ⟨fun g hg => hx.sub g (h.s g hg), ?_, ?_, ?_, ?_⟩
  · unfold Lib.TabIs
    rw [var_same (g := 1) (by kernel_rfl) (hb _ (by omega))]; exact h.tab
  · rw [var_same (g := 2) (by kernel_rfl) (hb _ (by omega))]; exact h.e1
  · rw [var_same (g := 3) (by kernel_rfl) (hb _ (by omega))]; exact h.e2
  · rw [cell_same (hb 0 (by omega))]; exact h.ml

theorem below_same (B : Nat) (w : World) : Go.RowKit.Below B w w := Go.RowKit.Below.refl B w

theorem below_grow (w : World) (k : Nat) (os : Array Obj) : Go.RowKit.Below w.heap.size w (Go.Sort.grow (w.drewN k) os) := by
  refine ⟨rfl, rfl, rfl, ?_, fun j hj => ?_⟩
  · show w.heap.size ≤ (w.heap ++ os).size
    simp
  · show (w.heap ++ os)[j]? = w.heap[j]?
    rw [Array.getElem?_append_left hj]

theorem below_alloc (w : World) (o : Obj) : Go.RowKit.Below w.heap.size w (w.alloc o) :=
  ⟨rfl, rfl, rfl, by simp, fun k hk => by show (w.heap.push o)[k]? = _; rw [Array.getElem?_push, if_neg (by omega)]⟩

theorem c24 (n : Int) (S : Nat → Prop) (w : World) (hP : Pre S w []) (hG : Glob S w) (hn : InR n) : Calls Tryd.prog 24 #[.int .i64 n] w (Ret S w [] fun v ls S w => v = .string (B (Lib.itoa n))) := by
  refine (Tryd.strconv_Itoa n hn.1 hn.2 w hG.tab).mono ?_
  rintro e w' ⟨rfl, k, os, rfl⟩
  exact Ret_of' hP (below_grow w k os) rfl

theorem c31 (l : List UInt8) (S : Nat → Prop) (w : World) (hP : Pre S w []) (hl : l.length ≤ 1000000) : Calls Tryd.prog 31 #[.string (B l), .string (B [10])] w (Ret S w [] fun v ls S w => v = .tuple #[.string (B (Lib.trimSuffix l [10])), .bool (Lib.hasSuffix l [10])]) := by
  refine (Tryd.strings_CutSuffix (B l) (B [10]) w (by rw [B_size]; omega)).mono ?_
  rintro e w' ⟨rfl, rfl⟩
  exact Ret_of' hP (below_same _ _) rfl

theorem c30 (l : List UInt8) (S : Nat → Prop) (w : World) (hP : Pre S w []) : Calls Tryd.prog 30 #[.string (B l), .int .u8 10] w (Ret S w [] fun v ls S w => v = .int .i64 (Lib.indexByte l 10)) := by
  refine (Tryd.strings_IndexByte (B l) 10 w).mono ?_
  rintro e w' ⟨rfl, rfl⟩
  exact Ret_of' hP (below_same _ _) rfl

/-- A string in a row. -/
def stE : Enc (List UInt8) where
  n := 1
  rep _ _ vs l := vs = [.string (B l)]
  len := fun h => by rw [h]; rfl
  cell := fun h => by rw [h]; rfl
  mono := fun h _ => h

theorem Reads_st {S : Nat → Prop} {w : World} : ∀ (ls : List (List UInt8)), Reads stE S w (ls.map fun l => Value.string (B l)) ls
  | [] => Reads.nil
  | l :: ls => by
    have h1 : Reads stE S w [.string (B l)] [l] := Reads.one rfl
    exact h1.app (by rfl) (Reads_st ls)

theorem c32 (l : List UInt8) (S : Nat → Prop) (w : World) (hP : Pre S w []) (hG : Glob S w) (hl : l.length ≤ 1000000) : Calls Tryd.prog 32 #[.string (B l), .string (B [32])] w (Ret S w [] fun v ls S w => ∃ x : Sl, v = .slice x.a x.n x.c ∧ RSl stE S w x (Lib.split l [32])) := by
  obtain ⟨m, hm⟩ := hG.ml
  refine (Tryd.strings_Split (B l) (B [32]) m w (by rw [B_size]; omega) hm (by decide)).mono ?_
  rintro e w' ⟨rfl, rfl⟩
  have hsp : (Lib.splitB (B [32]) 0 (Lib.countB (B l) (B [32])) (B l)).map (·.data.toList) = Lib.split l [32] := Lib.splitB_data _ _ _ _
  have hcells : (Lib.splitB (B [32]) 0 (Lib.countB (B l) (B [32])) (B l)).map Value.string = (Lib.split l [32]).map fun l => Value.string (B l) := by
    rw [← hsp, List.map_map]
    rfl
  have hlen : (Lib.split l [32]).length = Lib.countB (B l) (B [32]) + 1 := by
    rw [← hsp, List.length_map]
    exact Lib.splitB_all _ (by decide) _ _ _ rfl
  refine Ret_of hP (fun b => S b ∨ b = w.heap.size) (below_alloc w _) (fun b h => .inl h) (fun b h => h.imp id fun h => ⟨by omega, by rw [h]; simp⟩) ⟨⟨_, _, _⟩, rfl, ⟨hlen.symm, Nat.le_refl _, .inr ⟨w.heap.size, 0, _, 9, (0, 0), rfl, .inr rfl, heap_alloc_new w _, ?_, ?_⟩⟩⟩
  · show 0 + (Lib.countB (B l) (B [32]) + 1) * 1 ≤ _
    rw [hcells, ← hlen]
    simp
  · rw [hcells]
    exact Reads_st _

theorem below_bytes (w : World) (e : Nat) (t : ByteArray) : Go.RowKit.Below w.heap.size w (Lib.bytesWorld w e t) := by
  refine ⟨rfl, rfl, rfl, ?_, fun k hk => ?_⟩
  · unfold Lib.bytesWorld World.freeze World.alloc World.drew
    simp
  · unfold Lib.bytesWorld World.freeze World.alloc World.drew
    rw [if_neg (by omega)]
    simp only [Array.getElem?_modify]
    rw [if_neg (by omega), Array.getElem?_push, if_neg (by omega)]

theorem c42 (l : List UInt8) (S : Nat → Prop) (w : World) (hP : Pre S w []) (hG : Glob S w) (hl : l.length ≤ 1000000) : Calls Tryd.prog 42 #[.string (B l)] w (Ret S w [] fun v ls S w =>
    (∃ n, v = .tuple #[.int .i64 n, .nilIface] ∧ Lib.atoiAll l = .ok n) ∨ (∃ n t p, v = .tuple #[.int .i64 n, .iface t p] ∧ ∀ m, Lib.atoiAll l ≠ .ok m)) := by
  rcases h : Lib.atoiAll l with n | _ | _
  · refine (Tryd.strconv_Atoi_ok (B l) (by rw [B_size]; omega) n h w).mono ?_
    rintro e w' ⟨rfl, hw⟩
    refine Ret_of' hP ?_ (.inl ⟨n, rfl, rfl⟩)
    rcases hw with rfl | ⟨t, rfl⟩
    · exact below_same _ _
    · exact below_bytes w 5 t
  · obtain ⟨tp, p, hv⟩ := hG.e1
    refine (Tryd.strconv_Atoi_syntax_var (B l) (by rw [B_size]; omega) (fun m e => by rw [show Lib.atoiAll (B l).data.toList = Lib.atoiAll l from rfl, h] at e; cases e) (fun e => by rw [show Lib.atoiAll (B l).data.toList = Lib.atoiAll l from rfl, h] at e; cases e) tp p w hv).mono ?_
    rintro e w' ⟨N, rfl, _, _, hb⟩
    exact Ret_of' hP hb (.inr ⟨_, _, _, rfl, fun m e => by cases e⟩)
  · obtain ⟨tp, p, hv⟩ := hG.e2
    refine (Tryd.strconv_Atoi_range_var (B l) (by rw [B_size]; omega) h tp p w hv).mono ?_
    rintro e w' ⟨N, rfl, _, _, hb⟩
    exact Ret_of' hP hb (.inr ⟨_, _, _, rfl, fun m e => by cases e⟩)

theorem ni_err {l : List UInt8} {n : Int} (h : ∀ m, Lib.atoiAll l ≠ .ok m) : NumI l n false :=
  num_impl (fun h => absurd h (by decide)) fun k hk e => absurd (e ▸ atoi_itoa k (by unfold Rg at hk; omega)) (h k)
theorem ni_out {l : List UInt8} {n : Int} (h : Lib.atoiAll l = .ok n) (h2 : ¬ Rg n ∨ Lib.itoa n ≠ l) : NumI l n false :=
  num_impl (fun h => absurd h (by decide)) fun k hk e => by
    have := atoi_itoa k (by unfold Rg at hk; omega)
    rw [← e, h] at this
    simp only [Lib.NumEnd.ok.injEq] at this
    subst this
    rcases h2 with h2 | h2
    · exact absurd hk h2
    · exact absurd e.symm h2
theorem ni_yes {l : List UInt8} {n : Int} (h1 : Rg n) (h2 : Lib.itoa n = l) : NumI l n true := num_impl (fun _ => ⟨h2.symm, h1⟩) fun _ _ _ => rfl
theorem ni_beq {l : List UInt8} {n : Int} (h : Lib.atoiAll l = .ok n) (h1 : Rg n) : NumI l n ((B (Lib.itoa n)).toList == (B l).toList) := by
  cases hb : ((B (Lib.itoa n)).toList == (B l).toList)
  · exact ni_out h (.inr (B_ne hb))
  · exact ni_yes h1 (B_eq hb)
theorem IFU : Tryd.prog.underlying 57 = some (.interface (Tryd.prog.methodsAt 57)) := by kernel_rfl

theorem f35 (l : List UInt8) (S : Nat → Prop) (w : World) (hP : Pre S w []) (hG : Glob S w) (hl : l.length ≤ 1000000) :
    Calls Tryd.prog 35 #[.string (B l)] w (Ret S w [] fun v_ ls_ S_ w_ => ∃ n ok, v_ = .tuple #[.int .i64 n, .bool ok] ∧ NumI l n ok) := by
  refine Calls_of_VC (ls := []) ⟨[(0, .string (B l))], []⟩ Tryd.func35 rfl (by kernel_rfl) (by kernel_rfl) hP ?_
  refine VC_go (hs := [0, 0]) TOK [0, 2, 3] ⟨[(0, .string (B l)), (2, .int .i64 0), (3, .bool false)], []⟩ [] (by kernel_rfl) (by kernel_rfl) ?_
  refine VC_seq ?_
  refine VC_region 7 rfl ?_
  refine RV_go (hs := [0]) (c' := 6) (k' := 1) TOK [0, 2, 3, 7] ⟨[(0, .string (B l)), (2, .int .i64 0), (3, .bool false), (7, .string (B l))], []⟩ [] (by kernel_rfl) (by kernel_rfl) ?_
  refine RV_call (c := 5) (f := 42) (vs := [.string (B l)]) (dst := (some 8)) (by kernel_rfl) E42 (fun wa hxe hp => c42 l _ wa hp (hG.ext hxe) hl) ?_
  rintro S5 w6 v7 _ hx8 (⟨n1, rfl, ha4⟩ | ⟨n1, t2, p3, rfl, ha4⟩)
  · skip
    have hG := hG.ext hx8
    refine RV_go (hs := [0, 0, 0, 0, 0]) (c' := 0) (k' := 7) TOK [0, 2, 3, 4, 5] ⟨[(0, .string (B l)), (2, .int .i64 0), (3, .bool false), (4, .int .i64 n1), (5, .nilIface)], []⟩ [] (by kernel_rfl) (by kernel_rfl) ?_
    refine RV_end ?_
    refine KE_then ?_
    refine VC_seq ?_
    refine VC_region 19 rfl ?_
    refine RV_go (hs := [0, 0]) (c' := 17) (k' := 2) TOK [0, 2, 3, 4, 11, 12] ⟨[(0, .string (B l)), (2, .int .i64 0), (3, .bool false), (4, .int .i64 n1), (11, .int .i64 n1), (12, .nilIface)], []⟩ [] (by kernel_rfl) (by kernel_rfl) ?_
    refine RV_val (c := 16) (nilV 57) [] [0, 2, 3, 4, 11, 13] ⟨[(0, .string (B l)), (2, .int .i64 0), (3, .bool false), (4, .int .i64 n1), (11, .int .i64 n1), (13, .bool true)], []⟩ (by kernel_rfl) (fun o v a wa h hA _ => run_nil IFU h hA) ?_
    refine RV_go (hs := [0, 0, 0, 0, 0]) (c' := 11) (k' := 8) TOK [0, 2, 3, 4, 11, 18] ⟨[(0, .string (B l)), (2, .int .i64 0), (3, .bool false), (4, .int .i64 n1), (11, .int .i64 n1), (18, .bool (decide (n1 ≥ (-4611686018427387904))))], []⟩ [] (by kernel_rfl) (by kernel_rfl) ?_
    refine RV_case (decide (n1 ≥ (-4611686018427387904))) (fun bb => ⟨[(0, .string (B l)), (2, .int .i64 0), (3, .bool false), (4, .int .i64 n1), (11, .int .i64 n1), (18, .bool bb)], []⟩) (by kernel_rfl) (fun h9 => ?_) (fun h9 => ?_)
    · skip
      replace h9 := of_decide_eq_true h9
      refine RV_go (hs := [0, 0, 0, 0]) (c' := 7) (k' := 12) TOK [0, 2, 3, 4, 11, 22] ⟨[(0, .string (B l)), (2, .int .i64 0), (3, .bool false), (4, .int .i64 n1), (11, .int .i64 n1), (22, .bool (decide (n1 ≤ 4611686018427387904)))], []⟩ [] (by kernel_rfl) (by kernel_rfl) ?_
      refine RV_case (decide (n1 ≤ 4611686018427387904)) (fun bb => ⟨[(0, .string (B l)), (2, .int .i64 0), (3, .bool false), (4, .int .i64 n1), (11, .int .i64 n1), (22, .bool bb)], []⟩) (by kernel_rfl) (fun h10 => ?_) (fun h10 => ?_)
      · skip
        replace h10 := of_decide_eq_true h10
        refine RV_go (hs := [0]) (c' := 6) (k' := 13) TOK [0, 2, 3, 11, 22, 23] ⟨[(0, .string (B l)), (2, .int .i64 0), (3, .bool false), (11, .int .i64 n1), (22, .bool true), (23, .int .i64 n1)], []⟩ [] (by kernel_rfl) (by kernel_rfl) ?_
        refine RV_call (c := 5) (f := 24) (vs := [.int .i64 n1]) (dst := (some 24)) (by kernel_rfl) E24 (fun wa hxe hp => c24 n1 _ wa hp (hG.ext hxe) (by unfold InR; omega)) ?_
        rintro S11 w12 v13 _ hx14 rfl
        have hG := hG.ext hx14
        refine RV_go (hs := [0, 0, 0, 0, 0]) (c' := 0) (k' := 19) TOK [2, 3] ⟨[(2, .int .i64 n1), (3, .bool ((B (Lib.itoa n1)).toList == (B l).toList))], []⟩ [] (by kernel_rfl) (by kernel_rfl) ?_
        refine RV_end ?_
        refine KE_then ?_
        refine VC_ret (ls := []) TOK [] 0 false [] [.int .i64 n1, .bool ((B (Lib.itoa n1)).toList == (B l).toList)] [] ([]) rfl (by kernel_rfl) (by kernel_rfl) (fun w9 hx9 => ?_)
        show ∃ n ok, (.tuple #[.int .i64 n1, .bool ((B (Lib.itoa n1)).toList == (B l).toList)] : Value) = .tuple #[.int .i64 n, .bool ok] ∧ NumI l n ok
        first | exact ⟨_, _, rfl, ni_beq ha4 ⟨by omega, by omega⟩⟩ | exact ⟨_, _, rfl, ni_err ha4⟩ | exact ⟨_, _, rfl, ni_out ha4 (.inl (fun r => by unfold Rg at r; omega))⟩ 
      · skip
        replace h10 := of_decide_eq_false h10
        refine RV_go (hs := [0, 0, 0, 0, 0, 0, 0]) (c' := 0) (k' := 19) TOK [2, 3] ⟨[(2, .int .i64 n1), (3, .bool false)], []⟩ [] (by kernel_rfl) (by kernel_rfl) ?_
        refine RV_end ?_
        refine KE_then ?_
        refine VC_ret (ls := []) TOK [] 0 false [] [.int .i64 n1, .bool false] [] ([]) rfl (by kernel_rfl) (by kernel_rfl) (fun w9 hx9 => ?_)
        show ∃ n ok, (.tuple #[.int .i64 n1, .bool false] : Value) = .tuple #[.int .i64 n, .bool ok] ∧ NumI l n ok
        first | exact ⟨_, _, rfl, ni_beq ha4 ⟨by omega, by omega⟩⟩ | exact ⟨_, _, rfl, ni_err ha4⟩ | exact ⟨_, _, rfl, ni_out ha4 (.inl (fun r => by unfold Rg at r; omega))⟩ 
    · skip
      replace h9 := of_decide_eq_false h9
      refine RV_go (hs := [0, 0, 0, 0, 0, 0, 0, 0, 0, 0, 0]) (c' := 0) (k' := 19) TOK [2, 3] ⟨[(2, .int .i64 n1), (3, .bool false)], []⟩ [] (by kernel_rfl) (by kernel_rfl) ?_
      refine RV_end ?_
      refine KE_then ?_
      refine VC_ret (ls := []) TOK [] 0 false [] [.int .i64 n1, .bool false] [] ([]) rfl (by kernel_rfl) (by kernel_rfl) (fun w9 hx9 => ?_)
      show ∃ n ok, (.tuple #[.int .i64 n1, .bool false] : Value) = .tuple #[.int .i64 n, .bool ok] ∧ NumI l n ok
      first | exact ⟨_, _, rfl, ni_beq ha4 ⟨by omega, by omega⟩⟩ | exact ⟨_, _, rfl, ni_err ha4⟩ | exact ⟨_, _, rfl, ni_out ha4 (.inl (fun r => by unfold Rg at r; omega))⟩ 
  · skip
    have hG := hG.ext hx8
    refine RV_go (hs := [0, 0, 0, 0, 0]) (c' := 0) (k' := 7) TOK [0, 2, 3, 4, 5] ⟨[(0, .string (B l)), (2, .int .i64 0), (3, .bool false), (4, .int .i64 n1), (5, .iface t2 p3)], []⟩ [] (by kernel_rfl) (by kernel_rfl) ?_
    refine RV_end ?_
    refine KE_then ?_
    refine VC_seq ?_
    refine VC_region 19 rfl ?_
    refine RV_go (hs := [0, 0]) (c' := 17) (k' := 2) TOK [0, 2, 3, 4, 11, 12] ⟨[(0, .string (B l)), (2, .int .i64 0), (3, .bool false), (4, .int .i64 n1), (11, .int .i64 n1), (12, .iface t2 p3)], []⟩ [] (by kernel_rfl) (by kernel_rfl) ?_
    refine RV_val (c := 16) (nilV 57) [] [0, 2, 3, 4, 11, 13] ⟨[(0, .string (B l)), (2, .int .i64 0), (3, .bool false), (4, .int .i64 n1), (11, .int .i64 n1), (13, .bool false)], []⟩ (by kernel_rfl) (fun o v a wa h hA _ => run_nil IFU h hA) ?_
    refine RV_go (hs := [0, 0, 0, 0, 0, 0, 0, 0, 0, 0, 0, 0, 0, 0, 0, 0]) (c' := 0) (k' := 19) TOK [2, 3] ⟨[(2, .int .i64 n1), (3, .bool false)], []⟩ [] (by kernel_rfl) (by kernel_rfl) ?_
    refine RV_end ?_
    refine KE_then ?_
    refine VC_ret (ls := []) TOK [] 0 false [] [.int .i64 n1, .bool false] [] ([]) rfl (by kernel_rfl) (by kernel_rfl) (fun w9 hx9 => ?_)
    show ∃ n ok, (.tuple #[.int .i64 n1, .bool false] : Value) = .tuple #[.int .i64 n, .bool ok] ∧ NumI l n ok
    first | exact ⟨_, _, rfl, ni_beq ha4 ⟨by omega, by omega⟩⟩ | exact ⟨_, _, rfl, ni_err ha4⟩ | exact ⟨_, _, rfl, ni_out ha4 (.inl (fun r => by unfold Rg at r; omega))⟩ 

end Go.YtmfkmoecbnghhaaDoor
