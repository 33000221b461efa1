/- Whatever is appended, wherever the disk dies, whatever is left, however often it is opened: each answer, the records, and the disk's steps are what the model says. Conditions: none. -/
import Derived.Test.YtpnlcogbahjnoaaGreatRows
import Derived.Test.YtpnlcogbahjnoaaGreatPlaysL
import Derived.WalkKit
import Derived.ProofKit
import Derived.OpenShut
import Derived.ShutString
import Derived.ChangeOld
import Derived.Below
import Derived.SizedLaws
import Derived.Test.YtpnlcogbahjnoaaGreatArgs
namespace Go.Proofs.YtpnlcogbahjnoaaGreat.recordPlays
open Go.ChangeShapes Go.WideShapes Go.ChangeAt Go.RowKit
open Go.ChangeMaps (open_string shut_string)
set_option linter.unusedVariables false
open Go.Proofs.YtpnlcogbahjnoaaGreat.M
theorem laidOut : laidOutB Tryz.prog = true := by kernel_rfl
theorem reads22 : Tryz.prog.readableRec 22 = true := by kernel_rfl
theorem row22 : 22 < Tryz.prog.types.size := of_decide_eq_true (by kernel_rfl)
theorem reads23 : Tryz.prog.readableRec 23 = true := by kernel_rfl
theorem row23 : 23 < Tryz.prog.types.size := of_decide_eq_true (by kernel_rfl)
theorem own : ownKnob Tryz.prog.godebug = none := by kernel_rfl
set_option maxRecDepth 100000 in
theorem lifted (os : Os) (started : os.Started) (H : Type) (enc : TypeId × Value → H) :
    ReturnsInHanded {} Tryz.checked os 3 .any (Rows.recordPlaysSpec.pre6 enc Tryz.prog Tryz.f3 Rows.recordPlaysRow.domain false) (Rows.recordPlaysSpec.post enc Tryz.prog Tryz.f3 false true false false) := by
  refine returnsInHanded_of_change_sized (C := Tryz.checked) own started (by kernel_rfl) Tryz.func3
    (ChangeSpec.witness6 (enc := enc) (C := Tryz.checked) false ⟨#[], #[.slice none 0 0, .slice none 0 0, .slice none 0 0], []⟩ 8 (by kernel_rfl) (by kernel_rfl) (by kernel_rfl) (by kernel_rfl)) ?_
  intro W base args ds gs before hval0 hW hcnd hsz0 _
  have hsz : (DataW.weightsEach Tryz.prog (Tryz.f3.params.toList ++ Rows.recordPlaysSpec.plain.varTypes Tryz.prog) (ds ++ gs)).all (· ≤ reachBytes) = true := hsz0
  have hval : ∀ (j : Nat) t v, Tryz.f3.params[j]? = some t → args[j]? = some v → Value.okWide Tryz.prog W .any base t v := hval0
  have hW' := hW
  obtain ⟨p, q, hA0, hV, rfl, hfz, hnd⟩ := hW
  have hA : DataW.TrodAll enc Tryz.prog W 0 (fun _ => true) true Tryz.f3.params.toList args.toList ds p := hA0
  rw [Tryz.params3] at hA hval hsz
  obtain ⟨v0, vs0, d0, ds0, p0, q0, hargs, rfl, rfl, h0, r0⟩ := trodAll_cons hA
  obtain ⟨v1, vs1, d1, ds1, p1, q1, rfl, rfl, rfl, h1, r1⟩ := trodAll_cons r0
  obtain ⟨v2, vs2, d2, ds2, p2, q2, rfl, rfl, rfl, h2, r2⟩ := trodAll_cons r1
  obtain ⟨rfl, rfl, rfl⟩ := trodAll_nil r2
  obtain rfl : args = #[v0, v1, v2] := by cases args; simp_all
  obtain ⟨rfl, rfl⟩ := trodVars_none hV
  obtain ⟨ls0, hl0⟩ := F.lls_arg (hval 0 22 v0 rfl rfl) h0
  obtain ⟨ns1, hn1⟩ := F.ints_arg (hval 1 23 v1 rfl rfl) h1
  obtain ⟨ns2, hn2⟩ := F.ints_arg (hval 2 23 v2 rfl rfl) h2
  clear hA0 hval0 hsz0 hsz
  refine (F.plays_yes W v0 v1 v2 ls0 ns1 ns2 hl0 hn1 hn2).mono fun e W' ⟨he, bel⟩ => ?_
  subst he
  exact ⟨_, rfl, _, _, _, [], _, [], hW', trodAll_mk1 (shut_bool Tryz.underlying4 _), (trodAll_cons_mk (Below.trod laidOut reads22 row22 h0 bel (places_lt h0)) (trodAll_cons_mk (Below.trod laidOut reads23 row23 h1 bel (places_lt h1)) (trodAll_cons_mk (Below.trod laidOut reads23 row23 h2 bel (places_lt h2)) trodAll_mk0))), rfl, bel.frame _, fun h => by cases h⟩
theorem over : Rows.recordPlaysRow.holds Tryz.pinned (OpenSpec.ofChange Rows.recordPlaysSpec) :=
  OpenClaim.holds_of_wide 3 Tryz.f3 rfl rfl rfl rfl rfl rfl rfl ⟨rfl, rfl, rfl, rfl, rfl⟩ rfl rfl rfl rfl rfl (by kernel_rfl) Tryz.func3 (by kernel_rfl)
    (of_decide_eq_true (by kernel_rfl)) (by unfold Func.isWrapper; first | (rw [if_pos (by decide +kernel)]; kernel_rfl) | (rw [if_neg (by decide +kernel)]; exact ⟨rfl, rfl⟩))
    (fun os started H enc _ => lifted os started H enc)
theorem proved : Rows.RecordPlaysSaid := over
#print axioms proved
end Go.Proofs.YtpnlcogbahjnoaaGreat.recordPlays
namespace Go.Proofs.YtpnlcogbahjnoaaGreat
/-- The row, under a short name, for the claim. -/
theorem recordPlays_holds : Rows.RecordPlaysSaid := recordPlays.proved
end Go.Proofs.YtpnlcogbahjnoaaGreat
