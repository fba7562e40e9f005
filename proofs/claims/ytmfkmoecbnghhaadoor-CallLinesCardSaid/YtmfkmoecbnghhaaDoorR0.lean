/- Contracts of functions, over the symbolic executor: each comes to what its theorem says. Written by gen.py, a program of this work. -/
import Derived.Test.YtmfkmoecbnghhaaDoorA18
import Derived.Test.YtmfkmoecbnghhaaDoorEngW
import Derived.Lib.LaidTab
import Derived.Stop.LaidErr
import Derived.MakeChecks
import Derived.Shelf.Vars
import Derived.Test.YtmfkmoecbnghhaaDoorRows
namespace Go.YtmfkmoecbnghhaaDoor
open Go Eng Go.Proofs Law Go.RowKit Go.Proofs
set_option linter.unusedVariables false
set_option linter.unusedSimpArgs false

open Go.RowKit
set_option maxRecDepth 100000 in
theorem open_sc : Opens Tryd.prog 36 scE := by
  intro H enc w base held fuel cs x hx
  obtain ⟨xs, n, _, _, hlen, _, hf⟩ := DataW.trod_struct Tryd.underlying36 hx
  rw [show Tryd.prog.cellsOf 36 = 3 from by kernel_rfl] at hlen
  match cs, hlen with
  | [c0, c1, c2], _ =>
    have c3 : Tryd.prog.cellsOf 3 = 1 := by kernel_rfl
    have hi : ∀ i (v : Value), DataW.trod enc Tryd.prog w base (fun _ => true) held n 3 [v] = xs[i]? → i < xs.length → ∃ k, v = .int .i64 k ∧ InR k := fun i v h hl => by
      rw [List.getElem?_eq_getElem hl] at h
      obtain ⟨k, e1, e2⟩ := Opens.int Tryd.underlying3 enc w base held n [v] _ h
      simp only [List.cons.injEq, and_true] at e1
      exact ⟨k, e1, e2⟩
    have hx3 : xs.length = 3 := by assumption
    have h0 : DataW.trod enc Tryd.prog w base (fun _ => true) held n 3 (([c0, c1, c2].drop 0).take (Tryd.prog.cellsOf 3)) = xs[0]? := hf 0 _ rfl
    have h1 : DataW.trod enc Tryd.prog w base (fun _ => true) held n 3 (([c0, c1, c2].drop 1).take (Tryd.prog.cellsOf 3)) = xs[1]? := hf 1 _ rfl
    have h2 : DataW.trod enc Tryd.prog w base (fun _ => true) held n 3 (([c0, c1, c2].drop 2).take (Tryd.prog.cellsOf 3)) = xs[2]? := hf 2 _ rfl
    simp only [c3, List.drop_zero, List.drop_succ_cons, List.take_succ_cons, List.take_zero] at h0 h1 h2
    obtain ⟨k0, rfl, r0⟩ := hi 0 _ h0 (by omega)
    obtain ⟨k1, rfl, r1⟩ := hi 1 _ h1 (by omega)
    obtain ⟨k2, rfl, r2⟩ := hi 2 _ h2 (by omega)
    exact ⟨⟨k0, k1, k2⟩, rfl, r0, r1, r2⟩

theorem gP : Tryd.prog.globalNamed "internal/strconv.uint64pow10" = some 1 := by kernel_rfl
theorem gS : Tryd.prog.globalNamed "strconv.ErrSyntax" = some 2 := by kernel_rfl
theorem gR : Tryd.prog.globalNamed "strconv.ErrRange" = some 3 := by kernel_rfl
theorem star_ : "*" ++ "errors.errorString" = "*errors.errorString" := by decide
theorem rowPtr (u : TypeId) (h : Tryd.prog.typeName? 3 u = some "*errors.errorString") : u = 123 :=
  typeName_ptr_named (nm := "errors.errorString") (by rw [star_]; kernel_rfl) (by kernel_rfl) (by decide) u (by rw [star_]; exact h)
theorem glob_of {W : World} (hL : laidMetH Tryd.prog Go.Proofs.YtmfkmoecbnghhaaDoor.Rows.callTextsRow.laid W) (hsh : W.ShapedOpen Tryd.prog) : Glob (fun b => b < W.heap.size) W := by
  rw [MakeChecks.laidMetH_plain _ _ _ (by kernel_rfl)] at hL
  have hP : laidMet Tryd.prog (("internal/strconv.uint64pow10", Lib.tabData .u64 Lib.pow10Tab) :: _) W := hL.tail.tail
  have htab := Lib.tabIs_of_head gP (by kernel_rfl) Tryd.underlying103 Tryd.underlying87 (by kernel_rfl) (by kernel_rfl) hP
  obtain ⟨a1, s1, hr, -, -, -⟩ := laid_sentinel hP.tail.tail gR (by kernel_rfl) Tryd.underlying57 rowPtr Tryd.underlying123 Tryd.underlying125 rfl rfl Tryd.underlying9 (by kernel_rfl) (by kernel_rfl)
  obtain ⟨a0, s0, he, -, -, -⟩ := laid_sentinel hP.tail.tail.tail gS (by kernel_rfl) Tryd.underlying57 rowPtr Tryd.underlying123 Tryd.underlying125 rfl rfl Tryd.underlying9 (by kernel_rfl) (by kernel_rfl)
  obtain ⟨m, hm⟩ : ∃ m, W.cell? ⟨0, 0, none⟩ = some (.int .i64 m) := Go.Proofs.cell_of_shapedOpen_int (zero := #[.int .i64 0]) (t := 3) hsh (of_decide_eq_true (by kernel_rfl)) (by kernel_rfl) rfl (by kernel_rfl) (by kernel_rfl) Tryd.underlying3
  have hsz : 8 ≤ W.heap.size := by
    have h7 : (((begin Tryd.prog (fun _ _ => 0) default).world.heap[7]?).bind Obj.row?).isSome = true := by kernel_rfl
    obtain ⟨⟨zero, t⟩, hz⟩ := Option.isSome_iff_exists.1 h7
    obtain ⟨cs, hh, _⟩ := hsh.1 7 zero t (of_decide_eq_true (by kernel_rfl)) hz
    exact heap_lt hh
  exact ⟨fun k hk => by omega, htab, ⟨_, _, he⟩, ⟨_, _, hr⟩, ⟨m, hm⟩⟩

end Go.YtmfkmoecbnghhaaDoor
