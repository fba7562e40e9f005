/- CallLines: whatever the input, the law answers true and leaves its input as it was. The listed package-level variables hold what the program lays. -/
import Derived.Test.YtmfkmoecbnghhaaDoorR0
import Derived.WalkKit
import Derived.ProofKit
import Derived.OpenShut
import Derived.ShutString
import Derived.ChangeOld
import Derived.Below
import Derived.SizedLaws
import Derived.Carry
import Derived.Deep.DeepHandedRow
import Derived.Lay
import Derived.LaidLaws
import Derived.Handed
import Derived.Test.YtmfkmoecbnghhaaDoorCards
import Derived.Test.YtmfkmoecbnghhaaDoorTie
import Derived.SevenTiedAt
namespace Go.Proofs.YtmfkmoecbnghhaaDoor.callLines
open Go.ChangeShapes Go.WideShapes Go.ChangeAt Go.RowKit Go.YtmfkmoecbnghhaaDoor.Eng Go.YtmfkmoecbnghhaaDoor Law
open Go.ChangeMaps (open_string shut_string)
set_option linter.unusedVariables false
set_option linter.unusedSimpArgs false
theorem own : ownKnob Tryd.prog.godebug = none := by kernel_rfl
theorem laidOut : laidOutB Tryd.prog = true := by kernel_rfl
theorem shaped_ (os : Os) (args : Array Value) : ((World.laidAll Tryd.prog os Rows.callLinesRow.laid).forCall (fun _ _ => 0) ⟨#[], args, []⟩).Shaped Tryd.prog := World.shaped_of_ZipB (by kernel_rfl) (by kernel_rfl)
theorem met_ (os : Os) (args : Array Value) : laidMetH Tryd.prog Rows.callLinesRow.laid ((World.laidAll Tryd.prog os Rows.callLinesRow.laid).forCall (fun _ _ => 0) ⟨#[], args, []⟩).memory := by
  rw [MakeChecks.laidMetH_plain _ _ _ (by kernel_rfl)]
  exact laidMet_laidAll _ (by kernel_rfl) (by kernel_rfl)
set_option maxRecDepth 100000 in
theorem lifted (os : Os) (started : os.Started) (H : Type) (enc : TypeId × Value → H) (F : Stop.Interp) :
    ReturnsInHanded {} Tryd.checked os 6 .any ((OpenSpec.ofChange Rows.callLinesSpec).preRow enc Tryd.prog Tryd.f6 Rows.callLinesRow.domain false Rows.callLinesRow.laid) (((OpenSpec.ofChange Rows.callLinesSpec).at F).post enc Tryd.prog Tryd.f6 false true false false) := by
  refine returnsInHanded_of_row (C := Tryd.checked) (s := OpenSpec.ofChange Rows.callLinesSpec) own started (by kernel_rfl) Tryd.func6
    (ChangeSpec.witness_shaped (enc := enc) (C := Tryd.checked) (os := os) (s := Rows.callLinesSpec) (conds := Rows.callLinesRow.domain) (apart := false) (X := fun w _ => laidMetH Tryd.prog Rows.callLinesRow.laid w) false (World.laidAll Tryd.prog os Rows.callLinesRow.laid) #[.slice none 0 0, .int .u8 0] 8 (World.laidAll_os _ _ _) (shaped_ os _) (by kernel_rfl) (by kernel_rfl) (by kernel_rfl) (met_ os _)) ?_
  intro W base args ds gs before hval0 hW _ _ hsz0 hL hsh _
  have hval : ∀ (j : Nat) t v, Tryd.f6.params[j]? = some t → args[j]? = some v → Value.okWide Tryd.prog W .any base t v := hval0
  have hW' := hW
  obtain ⟨p, q, hA0, hV, rfl, hfz, hnd⟩ := hW
  have hA : DataW.TrodAll enc Tryd.prog W 0 (fun _ => true) true Tryd.f6.params.toList args.toList ds p := hA0
  rw [Tryd.params6] at hA hval
  obtain ⟨v0, vs0, d0, ds0, p0, q0, hargs, rfl, rfl, h0, r0⟩ := trodAll_cons hA
  obtain ⟨v1, vs1, d1, ds1, p1, q1, rfl, rfl, rfl, h1, r1⟩ := trodAll_cons r0
  obtain ⟨rfl, rfl, rfl⟩ := trodAll_nil r1
  obtain rfl : args = #[v0, v1] := by cases args; simp_all
  obtain ⟨rfl, rfl⟩ := trodVars_none hV
  have k0 := h0
  have lt0 : ∀ x ∈ p0, x.block < W.heap.size := by obtain ⟨m, hm⟩ := k0; exact DataW.trod_lt m _ _ _ hm
  obtain ⟨a0, len0, cap0, rfl⟩ := okWide_slice Tryd.underlying22 (hval 0 22 v0 rfl rfl)
  obtain ⟨fu0, hf0⟩ := h0
  obtain ⟨x0, xs0, e0, hx0⟩ := open_sc.slice Tryd.underlying22 (by kernel_rfl) (by decide) hf0
  obtain ⟨rfl, rfl, rfl⟩ : a0 = x0.a ∧ len0 = x0.n ∧ cap0 = x0.c := by simpa [Value.cells] using e0
  have k1 := h1
  have lt1 : ∀ x ∈ p1, x.block < W.heap.size := by obtain ⟨m, hm⟩ := k1; exact DataW.trod_lt m _ _ _ hm
  obtain ⟨a1, rfl, rfl, rfl, w1⟩ := open_int Tryd.underlying5 (hval 1 5 v1 rfl rfl) h1
  have wf1 := w1
  simp only [Lit.wf, Bool.and_eq_true, decide_eq_true_eq, show IntKind.u8.min = 0 from rfl, show IntKind.u8.max = 255 from rfl] at wf1
  clear hA0 hval0 hsz0
  have hG := glob_of hL hsh
  refine (f6 x0 xs0 a1 _ W (Pre.all W) hG hx0 (by omega) (by omega)).mono fun e W' ⟨v_, S_, ls_, he, hk, _, _, _, _, _, hr⟩ => ?_
  have bel := hk.below
  subst he hr
  exact ⟨_, rfl, _, _, _, [], _, [], hW', trodAll_mk1 (shut_bool Tryd.underlying4 _), (trodAll_cons_mk (Below.trod laidOut (by kernel_rfl) (of_decide_eq_true (by kernel_rfl)) k0 bel lt0) (trodAll_cons_mk (Below.trod laidOut (by kernel_rfl) (of_decide_eq_true (by kernel_rfl)) k1 bel lt1) trodAll_mk0)), rfl, bel.frame _, fun h => by cases h⟩
theorem over : Rows.callLinesRow.holds Tryd.pinned (OpenSpec.ofChange Rows.callLinesSpec) :=
  OpenClaim.holds_of_cond 6 Tryd.f6 rfl rfl rfl rfl rfl rfl rfl ⟨rfl, rfl, rfl, rfl, rfl⟩ rfl rfl rfl rfl rfl (by kernel_rfl) Tryd.func6 (by kernel_rfl)
    (of_decide_eq_true (by kernel_rfl)) (by unfold Func.isWrapper; first | (rw [if_pos (by decide +kernel)]; kernel_rfl) | (rw [if_neg (by decide +kernel)]; exact ⟨rfl, rfl⟩))
    (fun os started H enc _ F => by rw [OpenClaim.pre_eq_preRow]; exact lifted os started H enc F)
theorem proved : Rows.CallLinesCardSaid :=
  Claim7.holds_tied_plain_at .later [] [.data, .data, .data, .data, .sentinel, .sentinel, .pinned] true (true, "fecf5939ba78ebe3e2045482d2e0f34938e3d4e69cd4282cda22098b366bf2e4") true
    over (fun _ h => by cases h) (by kernel_rfl) (fun _ h => by cases h) callLines_row_tie rfl ⟨rfl, rfl⟩ (by kernel_rfl) rfl
    (fun f fn hf hfn => by
      obtain rfl : f = 6 := Option.some.inj ((show Tryd.prog.funcNamed "hazel/hazellaw15.CallLines" = some 6 by kernel_rfl).symm.trans hf) |>.symm
      obtain rfl : fn = Tryd.f6 := (Option.some.inj (Tryd.func6.symm.trans hfn)).symm
      exact ⟨by kernel_rfl, fun j t ht => by
        rw [Tryd.params6] at ht
        have hm : t ∈ [22, 5] := by simpa using Array.mem_of_getElem? ht
        have hall : ([22, 5].all fun u => !Tryd.prog.wantsStandIn u) = true := by kernel_rfl
        exact (show Tryd.prog.wantsStandIn t = false by simpa using List.all_eq_true.1 hall t hm)⟩)
    (by kernel_rfl)
#print axioms proved
end Go.Proofs.YtmfkmoecbnghhaaDoor.callLines
namespace Go.Proofs.YtmfkmoecbnghhaaDoor
/-- The row, under a short name, for the claim. -/
theorem callLines_holds : Rows.CallLinesCardSaid := callLines.proved
end Go.Proofs.YtmfkmoecbnghhaaDoor
