/- Contracts of functions, over the symbolic executor: each comes to what its theorem says. Written by gen.py, a program of this work. -/
import Derived.Test.YtmfkmoecbnghhaaDoorA10
namespace Go.YtmfkmoecbnghhaaDoor
open Go Eng Go.Proofs Law Go.RowKit
set_option linter.unusedVariables false
set_option linter.unusedSimpArgs false

theorem f23 (b : Nat) (p : Value) (ra : Option Addr) (rc : Nat) (bs l : List UInt8) (tl : List LB) (S : Nat → Prop) (w : World) (hP : Pre S w (⟨b, 51, [p, .slice ra bs.length rc]⟩ :: tl)) (hpp : p = .pointer none ∨ p = .pointer (some ⟨b, 0, none⟩)) (hrow : RowOK 5 1 ⟨ra, bs.length, rc⟩ (byteCells bs) tl) (hln : bs.length + l.length ≤ 1000000) :
    Calls Tryd.prog 23 #[.pointer (some ⟨b, 0, none⟩), .string (B l)] w (Ret S w (⟨b, 51, [p, .slice ra bs.length rc]⟩ :: tl) fun v_ ls_ S_ w_ => v_ = .tuple #[.int .i64 (l.length : Int), .nilIface] ∧ ∃ ra2 rc2 tl2, RowOK 5 1 ⟨ra2, (bs ++ l).length, rc2⟩ (byteCells (bs ++ l)) tl2 ∧ ls_ = ⟨b, 51, [.pointer (some ⟨b, 0, none⟩), .slice ra2 (bs ++ l).length rc2]⟩ :: tl2) := by
  refine Calls_of_VC (ls := (⟨b, 51, [p, .slice ra bs.length rc]⟩ :: tl)) ⟨[(0, .pointer (some ⟨b, 0, none⟩)), (1, .string (B l))], ⟨b, 51, [p, .slice ra bs.length rc]⟩ :: tl⟩ Tryd.func23 rfl (by kernel_rfl) (by kernel_rfl) hP ?_
  refine VC_go (hs := [0, 0]) TOK [0, 1, 4, 5] ⟨[(0, .pointer (some ⟨b, 0, none⟩)), (1, .string (B l)), (4, .int .i64 0), (5, .nilIface)], ⟨b, 51, [p, .slice ra bs.length rc]⟩ :: tl⟩ [] (by kernel_rfl) (by kernel_rfl) ?_
  refine VC_seq ?_
  refine VC_region 2 rfl ?_
  refine RV_go (hs := [0]) (c' := 1) (k' := 1) TOK [0, 1, 4, 5, 6] ⟨[(0, .pointer (some ⟨b, 0, none⟩)), (1, .string (B l)), (4, .int .i64 0), (5, .nilIface), (6, .pointer (some ⟨b, 0, none⟩))], ⟨b, 51, [p, .slice ra bs.length rc]⟩ :: tl⟩ [] (by kernel_rfl) (by kernel_rfl) ?_
  refine RV_callM (c := 0) [⟨b, 51, [p, .slice ra bs.length rc]⟩] (tl) (f := 37) (vs := [.pointer (some ⟨b, 0, none⟩)]) (dst := (some 7)) (by kernel_rfl) E37 rfl (fun wa hxe hp => c37 b p (.slice ra bs.length rc) _ wa hp hpp) ?_
  rintro S1 w2 v3 _ hx4 ⟨rfl, rfl⟩
  refine RV_end ?_
  refine KE_then ?_
  refine VC_seq ?_
  refine VC_region 10 rfl ?_
  refine RV_go (hs := [0, 0, 0, 0, 0, 0]) (c' := 4) (k' := 6) TOK [1, 4, 5, 8, 12, 13] ⟨[(1, .string (B l)), (4, .int .i64 0), (5, .nilIface), (8, .pointer (some ⟨b, 0, none⟩)), (12, .slice ra bs.length rc), (13, .string (B l))], ⟨b, 51, [.pointer (some ⟨b, 0, none⟩), .slice ra bs.length rc]⟩ :: tl⟩ [b] (by kernel_rfl) (by kernel_rfl) ?_
  refine RV_appendS (c := 3) (t := 49) (u := 9) (e := 5) (v := ⟨ra, bs.length, rc⟩) (xs := byteCells bs) (l := l) (dst := some 14) TOK [⟨b, 51, [.pointer (some ⟨b, 0, none⟩), .slice ra bs.length rc]⟩] tl (by kernel_rfl) rfl (by kernel_rfl) hrow (by dsimp only; omega) ?_
  intro ra5 rc6 tl7 hrow8
  refine RV_go (hs := [0, 0, 0]) (c' := 0) (k' := 10) TOK [1, 4, 5] ⟨[(1, .string (B l)), (4, .int .i64 0), (5, .nilIface)], ⟨b, 51, [.pointer (some ⟨b, 0, none⟩), .slice ra5 (bs.length + l.length) rc6]⟩ :: tl7⟩ [b] (by kernel_rfl) (by kernel_rfl) ?_
  refine RV_end ?_
  refine KE_then ?_
  refine VC_go (hs := [0, 0, 0, 0]) TOK [4, 5] ⟨[(4, .int .i64 (l.length : Int)), (5, .nilIface)], ⟨b, 51, [.pointer (some ⟨b, 0, none⟩), .slice ra5 (bs.length + l.length) rc6]⟩ :: tl7⟩ [] (by kernel_rfl) (by kernel_rfl) ?_
  refine VC_ret (ls := (⟨b, 51, [p, .slice ra bs.length rc]⟩ :: tl)) TOK [0] 1 true [] [.int .i64 (l.length : Int), .nilIface] [] (⟨b, 51, [.pointer (some ⟨b, 0, none⟩), .slice ra5 (bs.length + l.length) rc6]⟩ :: tl7) rfl (by kernel_rfl) (by kernel_rfl) (fun w9 hx9 => ?_)
  show (.tuple #[.int .i64 (l.length : Int), .nilIface] : Value) = .tuple #[.int .i64 (l.length : Int), .nilIface] ∧ ∃ ra2 rc2 tl2, RowOK 5 1 ⟨ra2, (bs ++ l).length, rc2⟩ (byteCells (bs ++ l)) tl2 ∧ (⟨b, 51, [.pointer (some ⟨b, 0, none⟩), .slice ra5 (bs.length + l.length) rc6]⟩ :: tl7 : List LB) = ⟨b, 51, [.pointer (some ⟨b, 0, none⟩), .slice ra2 (bs ++ l).length rc2]⟩ :: tl2
  refine ⟨rfl, ra5, rc6, tl7, ?_, ?_⟩
  · rw [byteCells_app, List.length_append]; exact hrow8
  · rw [List.length_append]

theorem f25_nil (b : Nat) (p : Value) (S : Nat → Prop) (w : World) (hP : Pre S w [⟨b, 51, [p, .slice none 0 0]⟩]) :
    Calls Tryd.prog 25 #[.pointer (some ⟨b, 0, none⟩)] w (Ret S w [⟨b, 51, [p, .slice none 0 0]⟩] fun v_ ls_ S_ w_ => v_ = .string (B []) ∧ ls_ = []) := by
  refine Calls_of_VC (ls := [⟨b, 51, [p, .slice none 0 0]⟩]) ⟨[(0, .pointer (some ⟨b, 0, none⟩))], [⟨b, 51, [p, .slice none 0 0]⟩]⟩ Tryd.func25 rfl (by kernel_rfl) (by kernel_rfl) hP ?_
  refine VC_go (hs := [0]) TOK [0, 2] ⟨[(0, .pointer (some ⟨b, 0, none⟩)), (2, .string (B ([] : List UInt8)))], [⟨b, 51, [p, .slice none 0 0]⟩]⟩ [] (by kernel_rfl) (by kernel_rfl) ?_
  refine VC_seq ?_
  refine VC_draw MIX [⟨b, 51, [p, .slice none 0 0]⟩] 12 rfl ?_
  refine RVd_take (fuel' := 3) TOK [] [(0, 0), (1, 0), (2, 0), (3, 0), (5, 0), (6, 0), (7, 0), (8, 0), (9, 0)] [2, 6, 12] [0] #[true, true, true, true, false, true, true, true, true, true, false, false] [(2, .string (B ([] : List UInt8))), (6, .slice none 0 0), (12, .int .i64 0)] [b, b] [] (by kernel_rfl) (by kernel_rfl) (by kernel_rfl) (by kernel_rfl) ROL_nil trivial ?_
  refine RVd_val (fuel := 2) 4 sdV [] [2, 7, 12] [0] #[true, true, true, true, true, true, true, true, true, true, false, false] ⟨[(2, .string (B ([] : List UInt8))), (7, .pointer none), (12, .int .i64 0)], [⟨b, 51, [p, .slice none 0 0]⟩]⟩ (by kernel_rfl) (by kernel_rfl) (by kernel_rfl) (by kernel_rfl) (fun o v a wa h hA _ => run_sd h hA) ?_
  refine RVd_val (fuel := 1) 10 usV [] [2, 13] [0] #[true, true, true, true, true, true, true, true, true, true, true, false] ⟨[(2, .string (B ([] : List UInt8))), (13, .string (B ([] : List UInt8)))], [⟨b, 51, [p, .slice none 0 0]⟩]⟩ (by kernel_rfl) (by kernel_rfl) (by kernel_rfl) (by kernel_rfl) (fun o v a wa h hA _ => run_us h hA) ?_
  refine RVd_take (fuel' := 0) TOK [] [(11, 0)] [2] [0] #[true, true, true, true, true, true, true, true, true, true, true, true] [(2, .string (B ([] : List UInt8)))] [] [] (by kernel_rfl) (by kernel_rfl) (by kernel_rfl) (by kernel_rfl) ROL_nil trivial ?_
  refine RVd_end (by kernel_rfl) ?_
  refine KE_then ?_
  refine VC_ret (ls := [⟨b, 51, [p, .slice none 0 0]⟩]) TOK [] 1 false [] [.string (B ([] : List UInt8))] [] ([]) rfl (by kernel_rfl) (by kernel_rfl) (fun w9 hx9 => ?_)
  show (.string (B ([] : List UInt8)) : Value) = .string (B []) ∧ ([] : List LB) = []
  exact ⟨rfl, rfl⟩

theorem f25_row (b : Nat) (p : Value) (g c : Nat) (bs : List UInt8) (rest : List Value) (S : Nat → Prop) (w : World) (hP : Pre S w [⟨b, 51, [p, .slice (some ⟨g, 0, none⟩) bs.length (c + 1)]⟩, ⟨g, 5, (byteCells bs ++ rest)⟩]) (h0 : bs ≠ []) (hln : bs.length ≤ 1000000) :
    Calls Tryd.prog 25 #[.pointer (some ⟨b, 0, none⟩)] w (Ret S w [⟨b, 51, [p, .slice (some ⟨g, 0, none⟩) bs.length (c + 1)]⟩, ⟨g, 5, (byteCells bs ++ rest)⟩] fun v_ ls_ S_ w_ => v_ = .string (B bs) ∧ ls_ = []) := by
  refine Calls_of_VC (ls := [⟨b, 51, [p, .slice (some ⟨g, 0, none⟩) bs.length (c + 1)]⟩, ⟨g, 5, (byteCells bs ++ rest)⟩]) ⟨[(0, .pointer (some ⟨b, 0, none⟩))], [⟨b, 51, [p, .slice (some ⟨g, 0, none⟩) bs.length (c + 1)]⟩, ⟨g, 5, (byteCells bs ++ rest)⟩]⟩ Tryd.func25 rfl (by kernel_rfl) (by kernel_rfl) hP ?_
  refine VC_go (hs := [0]) TOK [0, 2] ⟨[(0, .pointer (some ⟨b, 0, none⟩)), (2, .string (B ([] : List UInt8)))], [⟨b, 51, [p, .slice (some ⟨g, 0, none⟩) bs.length (c + 1)]⟩, ⟨g, 5, (byteCells bs ++ rest)⟩]⟩ [] (by kernel_rfl) (by kernel_rfl) ?_
  refine VC_seq ?_
  refine VC_draw MIX [⟨b, 51, [p, .slice (some ⟨g, 0, none⟩) bs.length (c + 1)]⟩] 12 rfl ?_
  refine RVd_take (fuel' := 3) TOK [] [(0, 0), (1, 0), (2, 0), (3, 0), (5, 0), (6, 0), (7, 0), (8, 0), (9, 0)] [2, 6, 12] [0] #[true, true, true, true, false, true, true, true, true, true, false, false] [(2, .string (B ([] : List UInt8))), (6, .slice (some ⟨g, 0, none⟩) bs.length (c + 1)), (12, .int .i64 (bs.length : Int))] [b, b] [] (by kernel_rfl) (by kernel_rfl) (by kernel_rfl) (by kernel_rfl) ROL_nil trivial ?_
  refine RVd_val (fuel := 2) 4 sdV [] [2, 7, 12] [0] #[true, true, true, true, true, true, true, true, true, true, false, false] ⟨[(2, .string (B ([] : List UInt8))), (7, .pointer (some ⟨g, 0, none⟩)), (12, .int .i64 (bs.length : Int))], [⟨b, 51, [p, .slice (some ⟨g, 0, none⟩) bs.length (c + 1)]⟩, ⟨g, 5, (byteCells bs ++ rest)⟩]⟩ (by kernel_rfl) (by kernel_rfl) (by kernel_rfl) (by kernel_rfl) (fun o v a wa h hA _ => run_sd h hA) ?_
  refine RVd_us (fuel := 1) (u := 5) (l := bs) (rest := rest) (pt := 77) (dst := some 13) 10 [0] #[true, true, true, true, true, true, true, true, true, true, true, false] [⟨b, 51, [p, .slice (some ⟨g, 0, none⟩) bs.length (c + 1)]⟩] (by kernel_rfl) (by kernel_rfl) (by kernel_rfl) rfl (by kernel_rfl) (by kernel_rfl) rfl rfl h0 (by omega) (by kernel_rfl) ?_
  refine RVd_take (fuel' := 0) TOK [] [(11, 0)] [2] [0] #[true, true, true, true, true, true, true, true, true, true, true, true] [(2, .string (B bs))] [] [] (by kernel_rfl) (by kernel_rfl) (by kernel_rfl) (by kernel_rfl) ROL_nil trivial ?_
  refine RVd_end (by kernel_rfl) ?_
  refine KE_then ?_
  refine VC_ret (ls := [⟨b, 51, [p, .slice (some ⟨g, 0, none⟩) bs.length (c + 1)]⟩, ⟨g, 5, (byteCells bs ++ rest)⟩]) TOK [] 1 false [] [.string (B bs)] [] ([]) rfl (by kernel_rfl) (by kernel_rfl) (fun w9 hx9 => ?_)
  show (.string (B bs) : Value) = .string (B bs) ∧ ([] : List LB) = []
  exact ⟨rfl, rfl⟩

end Go.YtmfkmoecbnghhaaDoor
