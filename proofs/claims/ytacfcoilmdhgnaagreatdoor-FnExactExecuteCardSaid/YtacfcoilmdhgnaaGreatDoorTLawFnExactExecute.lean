/- A function's Lean twin and its walk, written by a program of this session. -/
import Derived.Test.YtacfcoilmdhgnaaGreatDoorTFactsFnExactExecute
import Derived.Test.YtacfcoilmdhgnaaGreatDoorRows
import Derived.Test.YtacfcoilmdhgnaaGreatDoorTPFnExactExecutex13
import Derived.Test.YtacfcoilmdhgnaaGreatDoorTPureFnExactExecute
import Derived.WalkKit
import Derived.ProofKit
import Derived.OpenShut
import Derived.ShutString
import Derived.ChangeOld
import Derived.Below
import Derived.SizedLaws
import Derived.Test.YtacfcoilmdhgnaaGreatDoorTTied
import Derived.Test.YtacfcoilmdhgnaaGreatDoorTie
import Derived.Test.YtacfcoilmdhgnaaGreatDoorCards
import Derived.SevenTiedAt
namespace Go.Proofs.YtacfcoilmdhgnaaGreatDoor.fnExactExecute
open Go.ChangeShapes Go.WideShapes Go.ChangeAt Go.RowKit
open Go.ChangeMaps (open_string shut_string)
set_option linter.unusedVariables false
theorem own : ownKnob Tryz.prog.godebug = none := by kernel_rfl
set_option maxRecDepth 100000 in
theorem lifted (os : Os) (started : os.Started) (H : Type) (enc : TypeId × Value → H) :
    ReturnsInHanded {} Tryz.checked os 12 .any (fun w args => (Rows.fnExactExecuteSpec.pre enc Tryz.prog Tryz.f12 [] false w args ∧ laidMetH Tryz.prog Tied.L w) ∧ sizedMet enc Tryz.prog Tryz.f12 (OpenSpec.ofChange Rows.fnExactExecuteSpec) false w args) (Rows.fnExactExecuteSpec.post enc Tryz.prog Tryz.f12 false true false false) := by
  refine Tied.Ek (C := Tryz.checked) (X := fun w _ => laidMetH Tryz.prog Tied.L w) (fun _ _ _ hh h => h.of_heap hh) own started (by kernel_rfl) Tryz.func12
    (ChangeSpec.witness_shaped (enc := enc) (C := Tryz.checked) (os := os) (X := fun w _ => laidMetH Tryz.prog Tied.L w) false (World.laidAll Tryz.prog os Tied.L) #[.string ByteArray.empty] 8 (World.laidAll_os _ _ _) (Tied.KQ os _) (by kernel_rfl) (by kernel_rfl) (by kernel_rfl) (Tied.laid_met os _)) ?_
  intro W base args ds gs before hval0 hW hcnd hsz0 hL hsh _
  have hsz : (DataW.weightsEach Tryz.prog (Tryz.f12.params.toList ++ Rows.fnExactExecuteSpec.plain.varTypes Tryz.prog) (ds ++ gs)).all (· ≤ reachBytes) = true := hsz0
  have hval : ∀ (j : Nat) t v, Tryz.f12.params[j]? = some t → args[j]? = some v → Value.okWide Tryz.prog W .any base t v := hval0
  have hW' := hW
  obtain ⟨p, q, hA0, hV, rfl, hfz, hnd⟩ := hW
  have hA : DataW.TrodAll enc Tryz.prog W 0 (fun _ => true) true Tryz.f12.params.toList args.toList ds p := hA0
  rw [Tryz.params12] at hA hval hsz
  obtain ⟨v0, vs0, d0, ds0, p0, q0, hargs, rfl, rfl, h0, r0⟩ := trodAll_cons hA
  obtain ⟨rfl, rfl, rfl⟩ := trodAll_nil r0
  obtain rfl : args = #[v0] := by cases args; simp_all
  obtain ⟨rfl, rfl⟩ := trodVars_none hV
  obtain ⟨a0, rfl, rfl, rfl, y0⟩ := open_string Tryz.underlying9 (hval 0 9 v0 rfl rfl) h0
  have w0 : a0.size ≤ 140737488351232 := by
    have z := sized_string hsz (j := 0) (t := 9) rfl rfl
    rw [Array.length_toList] at z
    exact z
  clear hA0 hval0 hsz0 hsz
  refine (PFnExactExecute.laws_FnExactExecute.walk Pure.FnExactExecute a0 W w0 ⟨Tied.NR hsh, Tied.pow10_of hL⟩).mono fun e W' ⟨he, bel⟩ => ?_
  subst he
  exact ⟨_, rfl, _, _, _, [], _, [], hW', trodAll_mk1 (shut_bool Tryz.underlying4 _), (trodAll_cons_mk (shut_string Tryz.underlying9 y0) trodAll_mk0), rfl, bel.frame _, fun h => by cases h⟩
theorem over : Rows.fnExactExecuteRow.holds Tryz.pinned (OpenSpec.ofChange Rows.fnExactExecuteSpec) :=
  OpenClaim.holds_of_wide 12 Tryz.f12 rfl rfl rfl rfl rfl rfl rfl ⟨rfl, rfl, rfl, rfl, rfl⟩ rfl rfl rfl rfl rfl (by kernel_rfl) Tryz.func12 closed
    (of_decide_eq_true (by kernel_rfl)) (by unfold Func.isWrapper; first | (rw [if_pos (by decide +kernel)]; kernel_rfl) | (rw [if_neg (by decide +kernel)]; exact ⟨rfl, rfl⟩))
    (fun os started H enc _ => lifted os started H enc)
theorem row_proved : Rows.FnExactExecuteSaid := over
theorem proved : Rows.FnExactExecuteCardSaid :=
  Claim7.holds_tied_plain_at .later [] [.data, .data, .data, .data, .pinned] true (true, "0b8d937e8e5bfaad503ac8c8a77da6b62e58689681d8aafc8ad2ec9e3ed209f3") false
    row_proved (fun _ h => by cases h) worded (fun _ h => by cases h) fnExactExecute_row_tie rfl ⟨rfl, rfl⟩ mains rfl
    (fun f fn hf hfn => by
      obtain rfl : f = 12 := Option.some.inj ((show Tryz.prog.funcNamed "loop.example/localglobal/laws.FnExactExecute" = some 12 by kernel_rfl).symm.trans hf) |>.symm
      obtain rfl : fn = Tryz.f12 := (Option.some.inj (Tryz.func12.symm.trans hfn)).symm
      exact ⟨looks, fun j t ht => by
        rw [Tryz.params12] at ht
        have hm : t ∈ [9] := by simpa using Array.mem_of_getElem? ht
        have hall : ([9].all fun u => !Tryz.prog.wantsStandIn u) = true := by kernel_rfl
        exact (show Tryz.prog.wantsStandIn t = false by simpa using List.all_eq_true.1 hall t hm)⟩)
    goes
#print axioms proved
end Go.Proofs.YtacfcoilmdhgnaaGreatDoor.fnExactExecute
namespace Go.Proofs.YtacfcoilmdhgnaaGreatDoor
theorem fnExactExecute_holds : Rows.FnExactExecuteCardSaid := fnExactExecute.proved
end Go.Proofs.YtacfcoilmdhgnaaGreatDoor
