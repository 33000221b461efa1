/- A list of chapter 12's deeds, as an argument of a law. Conditions stand at each lemma. -/
import Derived.Test.YtpnlcogbahjnoaaGreatFDeeds
namespace Go.Proofs.YtpnlcogbahjnoaaGreat.F
open Go.RowKit Go.Proofs.YtpnlcogbahjnoaaGreat.M Go.ChangeShapes Go.WideShapes Go.Deep
set_option linter.unusedVariables false
section
variable {H : Type} {enc : TypeId × Value → H} {W : World}
theorem bytes_of_trod {T E : TypeId} {fuel : Nat} {v : Value} {x : DataW H × List MemPlace} (hT : Tryz.prog.underlying T = some (.slice E)) (hE : Tryz.prog.underlying E = some (.int .u8)) (hc : Tryz.prog.cellsOf E = 1)
    (h : DataW.trod enc Tryz.prog W 0 (fun _ => true) true fuel T [v] = some x) : ∃ bs, Bytes W v bs := by
  rcases open_ints hT hE hc h with ⟨hcs, _⟩ | ⟨x, l, c, zs, hcs, _, hl, hm, hz, _, hcell, hwz⟩
  · simp at hcs
    subst hcs
    exact ⟨[], Reads.nil W 1⟩
  · simp at hcs
    subst hcs
    simp only [if_true] at hz
    refine ⟨(zs.take l).map (fun n => UInt8.ofNat n.toNat), ?_⟩
    have hlen : ((zs.take l).map (fun n => UInt8.ofNat n.toNat)).length = l := by simp; omega
    refine ⟨by simp, .inr ⟨x, c, by rw [hlen], by rw [hlen]; exact hl, hm, fun j u hj => ?_⟩⟩
    rw [List.map_map, List.getElem?_map, Option.map_eq_some_iff] at hj
    obtain ⟨n, hn, rfl⟩ := hj
    rw [List.getElem?_take] at hn
    split at hn
    · rename_i hjl
      have hjz : j < zs.length := by omega
      have hg := hcell j hjz
      have hnn : zs.getD j 0 = n := by rw [List.getD_eq_getElem?_getD, hn]; rfl
      rw [hnn] at hg
      obtain ⟨b, rfl⟩ := u8_of n (hwz n (List.mem_of_getElem? hn))
      have hs : x.spot = none := by
        have h0 : 0 < zs.length := by omega
        have := World.cell?_spot (hcell 0 h0)
        simpa [Addr.add] using this
      obtain ⟨a1, a2, a3⟩ := add_off x j
      refine ⟨hs, ?_⟩
      have e : x.add j = ⟨x.block, x.off + j, none⟩ := by rw [← a1, ← a2, ← a3 hs]
      rw [e] at hg
      simpa [u8] using hg
    · cases hn
theorem ints_of_trod {T E : TypeId} {fuel : Nat} {v : Value} {x : DataW H × List MemPlace} (hT : Tryz.prog.underlying T = some (.slice E)) (hE : Tryz.prog.underlying E = some (.int .i64)) (hc : Tryz.prog.cellsOf E = 1)
    (h : DataW.trod enc Tryz.prog W 0 (fun _ => true) true fuel T [v] = some x) : ∃ ns : List Int, Reads W 1 v ns.length (ns.map (.int .i64)) := by
  rcases open_ints hT hE hc h with ⟨hcs, _⟩ | ⟨x, l, c, zs, hcs, _, hl, hm, hz, _, hcell, hwz⟩
  · simp at hcs
    subst hcs
    exact ⟨[], Reads.nil W 1⟩
  · simp at hcs
    subst hcs
    simp only [if_true] at hz
    refine ⟨zs.take l, ?_⟩
    have hlen : (zs.take l).length = l := by simp; omega
    refine ⟨by simp, .inr ⟨x, c, by rw [hlen], by rw [hlen]; exact hl, hm, fun j u hj => ?_⟩⟩
    rw [List.getElem?_map, Option.map_eq_some_iff] at hj
    obtain ⟨n, hn, rfl⟩ := hj
    rw [List.getElem?_take] at hn
    split at hn
    · rename_i hjl
      have hjz : j < zs.length := by omega
      have hg := hcell j hjz
      have hnn : zs.getD j 0 = n := by rw [List.getD_eq_getElem?_getD, hn]; rfl
      rw [hnn] at hg
      have hs : x.spot = none := by
        have h0 : 0 < zs.length := by omega
        have := World.cell?_spot (hcell 0 h0)
        simpa [Addr.add] using this
      obtain ⟨a1, a2, a3⟩ := add_off x j
      refine ⟨hs, ?_⟩
      have e : x.add j = ⟨x.block, x.off + j, none⟩ := by rw [← a1, ← a2, ← a3 hs]
      rw [e] at hg
      exact hg
    · cases hn

end
end Go.Proofs.YtpnlcogbahjnoaaGreat.F
