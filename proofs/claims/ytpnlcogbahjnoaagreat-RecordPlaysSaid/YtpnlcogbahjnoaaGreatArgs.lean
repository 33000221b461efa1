/- What the arguments of a law read as: bytes, lists. Conditions stand at each lemma. -/
import Derived.Test.YtpnlcogbahjnoaaGreatBase
import Derived.ProofKit
import Derived.OpenShut
import Derived.ShutString
import Derived.ChangeOld
import Derived.SizedLaws
import Derived.Carry
namespace Go.Proofs.YtpnlcogbahjnoaaGreat.M
open Go.ChangeShapes Go.WideShapes Go.ChangeAt Go.RowKit
set_option linter.unusedVariables false

theorem i64_bounds (a : Int) (h : (Lit.int .i64 a).wf = true) : -9223372036854775808 ≤ a ∧ a ≤ 9223372036854775807 := by
  have hmin : IntKind.i64.min = -9223372036854775808 := rfl
  have hmax : IntKind.i64.max = 9223372036854775807 := rfl
  simp only [Lit.wf, Bool.and_eq_true, decide_eq_true_eq] at h
  omega
theorem u8_of (a : Int) (h : (Lit.int .u8 a).wf = true) : ∃ b : UInt8, a = b.toNat := by
  have hmin : IntKind.u8.min = 0 := rfl
  have hmax : IntKind.u8.max = 255 := rfl
  simp only [Lit.wf, Bool.and_eq_true, decide_eq_true_eq] at h
  refine ⟨UInt8.ofNat a.toNat, ?_⟩
  rw [UInt8.toNat_ofNat']
  omega

section
variable {H : Type} {enc : TypeId × Value → H} {P : Program} {W : World}
theorem places_lt {t : TypeId} {v : Value} {d : DataW H} {ps : List MemPlace} (h : DataW.Trod enc P W 0 (fun _ => true) true t v d ps) : ∀ x ∈ ps, x.block < W.heap.size := by
  obtain ⟨m, hm⟩ := h
  exact DataW.trod_lt m _ _ _ hm

theorem bytes_arg {T E : TypeId} {base : Nat} {v : Value} {d : DataW H} {ps : List MemPlace} (hT : P.underlying T = some (.slice E)) (hE : P.underlying E = some (.int .u8)) (hc : P.cellsOf E = 1)
    (hok : Value.okWide P W .any base T v) (h : DataW.Trod enc P W 0 (fun _ => true) true T v d ps) : ∃ bs, Bytes W v bs := by
  obtain ⟨a, len, cap, rfl⟩ := okWide_slice hT hok
  obtain ⟨fuel, hf⟩ := h
  rcases open_ints hT hE hc hf with ⟨hcs, _⟩ | ⟨x, l, c, zs, hcs, _, hl, hm, hz, _, hcell, hwz⟩
  · simp [Value.cells] at hcs
    obtain ⟨rfl, rfl, rfl⟩ := hcs
    exact ⟨[], Reads.nil W 1⟩
  · simp [Value.cells] at hcs
    obtain ⟨rfl, rfl, rfl⟩ := hcs
    simp only [if_true] at hz
    refine ⟨(zs.take len).map (fun n => UInt8.ofNat n.toNat), ?_⟩
    have hlen : ((zs.take len).map (fun n => UInt8.ofNat n.toNat)).length = len := by simp; omega
    refine ⟨by simp, .inr ⟨x, cap, by rw [hlen], by rw [hlen]; exact hl, hm, fun j u hj => ?_⟩⟩
    rw [List.map_map, List.getElem?_map, Option.map_eq_some_iff] at hj
    obtain ⟨n, hn, rfl⟩ := hj
    rw [List.getElem?_take] at hn
    split at hn
    · rename_i hjl
      have hjz : j < zs.length := by omega
      have hg := hcell j hjz
      have hnn : zs.getD j 0 = n := by rw [List.getD_eq_getElem?_getD, hn]; rfl
      rw [hnn] at hg
      obtain ⟨b, rfl⟩ := u8_of n (hwz n (List.mem_of_getElem? hn))
      obtain ⟨a1, a2, a3⟩ := add_off x j
      have hs : x.spot = none := by
        have h0 : 0 < zs.length := by omega
        have := World.cell?_spot (hcell 0 h0)
        simpa [Addr.add] using this
      refine ⟨hs, ?_⟩
      have e : x.add j = ⟨x.block, x.off + j, none⟩ := by rw [← a1, ← a2, ← a3 hs]
      rw [e] at hg
      simpa [u8] using hg
    · cases hn
end

end Go.Proofs.YtpnlcogbahjnoaaGreat.M
