/- Any bytes: the records of the frames that they begin with, and how many bytes these have, or that they are spoilt; any records: their frame. Conditions: none. -/
import Derived.Test.YtpnlcogbahjnoaaRows
import Derived.Test.YtpnlcogbahjnoaaScansL
import Derived.WalkKit
import Derived.ProofKit
import Derived.OpenShut
import Derived.ShutString
import Derived.ChangeOld
import Derived.Below
import Derived.SizedLaws
import Derived.Test.YtpnlcogbahjnoaaArgs
namespace Go.Proofs.Ytpnlcogbahjnoaa.recordScans
open Go.ChangeShapes Go.WideShapes Go.ChangeAt Go.RowKit
open Go.ChangeMaps (open_string shut_string)
set_option linter.unusedVariables false
open Go.Proofs.Ytpnlcogbahjnoaa.M
theorem laidOut : laidOutB Try.prog = true := by kernel_rfl
theorem reads22 : Try.prog.readableRec 22 = true := by kernel_rfl
theorem row22 : 22 < Try.prog.types.size := of_decide_eq_true (by kernel_rfl)
theorem reads23 : Try.prog.readableRec 23 = true := by kernel_rfl
theorem row23 : 23 < Try.prog.types.size := of_decide_eq_true (by kernel_rfl)
theorem own : ownKnob Try.prog.godebug = none := by kernel_rfl
set_option maxRecDepth 100000 in
theorem lifted (os : Os) (started : os.Started) (H : Type) (enc : TypeId × Value → H) :
    ReturnsInHanded {} Try.checked os 3 .any (Rows.recordScansSpec.pre6 enc Try.prog Try.f3 Rows.recordScansRow.domain false) (Rows.recordScansSpec.post enc Try.prog Try.f3 false true false false) := by
  refine returnsInHanded_of_change_sized (C := Try.checked) own started (by kernel_rfl) Try.func3
    (ChangeSpec.witness6 (enc := enc) (C := Try.checked) false ⟨#[], #[.slice none 0 0, .slice none 0 0], []⟩ 8 (by kernel_rfl) (by kernel_rfl) (by kernel_rfl) (by kernel_rfl)) ?_
  intro W base args ds gs before hval0 hW hcnd hsz0 _
  have hsz : (DataW.weightsEach Try.prog (Try.f3.params.toList ++ Rows.recordScansSpec.plain.varTypes Try.prog) (ds ++ gs)).all (· ≤ reachBytes) = true := hsz0
  have hval : ∀ (j : Nat) t v, Try.f3.params[j]? = some t → args[j]? = some v → Value.okWide Try.prog W .any base t v := hval0
  have hW' := hW
  obtain ⟨p, q, hA0, hV, rfl, hfz, hnd⟩ := hW
  have hA : DataW.TrodAll enc Try.prog W 0 (fun _ => true) true Try.f3.params.toList args.toList ds p := hA0
  rw [Try.params3] at hA hval hsz
  obtain ⟨v0, vs0, d0, ds0, p0, q0, hargs, rfl, rfl, h0, r0⟩ := trodAll_cons hA
  obtain ⟨v1, vs1, d1, ds1, p1, q1, rfl, rfl, rfl, h1, r1⟩ := trodAll_cons r0
  obtain ⟨rfl, rfl, rfl⟩ := trodAll_nil r1
  obtain rfl : args = #[v0, v1] := by cases args; simp_all
  obtain ⟨rfl, rfl⟩ := trodVars_none hV
  obtain ⟨bs0, hb0⟩ := bytes_arg Try.underlying22 Try.underlying5 (by kernel_rfl) (hval 0 22 v0 rfl rfl) h0
  obtain ⟨rs1, hr1⟩ := F.recs_arg (hval 1 23 v1 rfl rfl) h1
  clear hA0 hval0 hsz0 hsz
  refine (F.scans_yes W v0 bs0 hb0 v1 rs1 hr1).mono fun e W' ⟨he, bel⟩ => ?_
  subst he
  exact ⟨_, rfl, _, _, _, [], _, [], hW', trodAll_mk1 (shut_bool Try.underlying4 _), (trodAll_cons_mk (Below.trod laidOut reads22 row22 h0 bel (places_lt h0)) (trodAll_cons_mk (Below.trod laidOut reads23 row23 h1 bel (places_lt h1)) trodAll_mk0)), rfl, bel.frame _, fun h => by cases h⟩
theorem over : Rows.recordScansRow.holds Try.pinned (OpenSpec.ofChange Rows.recordScansSpec) :=
  OpenClaim.holds_of_wide 3 Try.f3 rfl rfl rfl rfl rfl rfl rfl ⟨rfl, rfl, rfl, rfl, rfl⟩ rfl rfl rfl rfl rfl (by kernel_rfl) Try.func3 (by kernel_rfl)
    (of_decide_eq_true (by kernel_rfl)) (by unfold Func.isWrapper; first | (rw [if_pos (by decide +kernel)]; kernel_rfl) | (rw [if_neg (by decide +kernel)]; exact ⟨rfl, rfl⟩))
    (fun os started H enc _ => lifted os started H enc)
theorem proved : Rows.RecordScansSaid := over
#print axioms proved
end Go.Proofs.Ytpnlcogbahjnoaa.recordScans
namespace Go.Proofs.Ytpnlcogbahjnoaa
/-- The row, under a short name, for the claim. -/
theorem recordScans_holds : Rows.RecordScansSaid := recordScans.proved
end Go.Proofs.Ytpnlcogbahjnoaa
