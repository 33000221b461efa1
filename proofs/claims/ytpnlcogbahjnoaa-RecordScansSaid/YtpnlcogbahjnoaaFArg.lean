/- A list of chapter 12's deeds, as an argument of a law. Conditions stand at each lemma. -/
import Derived.Test.YtpnlcogbahjnoaaFDeeds
namespace Go.Proofs.Ytpnlcogbahjnoaa.F
open Go.RowKit Go.Proofs.Ytpnlcogbahjnoaa.M Go.ChangeShapes Go.WideShapes Go.Deep
set_option linter.unusedVariables false
section
variable {H : Type} {enc : TypeId × Value → H} {W : World}
theorem bytes_of_trod {T E : TypeId} {fuel : Nat} {v : Value} {x : DataW H × List MemPlace} (hT : Try.prog.underlying T = some (.slice E)) (hE : Try.prog.underlying E = some (.int .u8)) (hc : Try.prog.cellsOf E = 1)
    (h : DataW.trod enc Try.prog W 0 (fun _ => true) true fuel T [v] = some x) : ∃ bs, Bytes W v bs := by
  rcases open_ints hT hE hc h with ⟨hcs, _⟩ | ⟨x, l, c, zs, hcs, _, hl, hm, hz, _, hcell, hwz⟩
  · simp at hcs
    subst hcs
    exact ⟨[], Reads.nil W 1⟩
  · simp at hcs
    subst hcs
    simp only [if_true] at hz
    refine ⟨(zs.take l).map (fun n => UInt8.ofNat n.toNat), ?_⟩
    have hlen : ((zs.take l).map (fun n => UInt8.ofNat n.toNat)).length = l := by simp; omega
    refine ⟨by simp, .inr ⟨x, c, by rw [hlen], by rw [hlen]; exact hl, hm, fun j u hj => ?_⟩⟩
    rw [List.map_map, List.getElem?_map, Option.map_eq_some_iff] at hj
    obtain ⟨n, hn, rfl⟩ := hj
    rw [List.getElem?_take] at hn
    split at hn
    · rename_i hjl
      have hjz : j < zs.length := by omega
      have hg := hcell j hjz
      have hnn : zs.getD j 0 = n := by rw [List.getD_eq_getElem?_getD, hn]; rfl
      rw [hnn] at hg
      obtain ⟨b, rfl⟩ := u8_of n (hwz n (List.mem_of_getElem? hn))
      have hs : x.spot = none := by
        have h0 : 0 < zs.length := by omega
        have := World.cell?_spot (hcell 0 h0)
        simpa [Addr.add] using this
      obtain ⟨a1, a2, a3⟩ := add_off x j
      refine ⟨hs, ?_⟩
      have e : x.add j = ⟨x.block, x.off + j, none⟩ := by rw [← a1, ← a2, ← a3 hs]
      rw [e] at hg
      simpa [u8] using hg
    · cases hn
theorem ints_of_trod {T E : TypeId} {fuel : Nat} {v : Value} {x : DataW H × List MemPlace} (hT : Try.prog.underlying T = some (.slice E)) (hE : Try.prog.underlying E = some (.int .i64)) (hc : Try.prog.cellsOf E = 1)
    (h : DataW.trod enc Try.prog W 0 (fun _ => true) true fuel T [v] = some x) : ∃ ns : List Int, Reads W 1 v ns.length (ns.map (.int .i64)) := by
  rcases open_ints hT hE hc h with ⟨hcs, _⟩ | ⟨x, l, c, zs, hcs, _, hl, hm, hz, _, hcell, hwz⟩
  · simp at hcs
    subst hcs
    exact ⟨[], Reads.nil W 1⟩
  · simp at hcs
    subst hcs
    simp only [if_true] at hz
    refine ⟨zs.take l, ?_⟩
    have hlen : (zs.take l).length = l := by simp; omega
    refine ⟨by simp, .inr ⟨x, c, by rw [hlen], by rw [hlen]; exact hl, hm, fun j u hj => ?_⟩⟩
    rw [List.getElem?_map, Option.map_eq_some_iff] at hj
    obtain ⟨n, hn, rfl⟩ := hj
    rw [List.getElem?_take] at hn
    split at hn
    · rename_i hjl
      have hjz : j < zs.length := by omega
      have hg := hcell j hjz
      have hnn : zs.getD j 0 = n := by rw [List.getD_eq_getElem?_getD, hn]; rfl
      rw [hnn] at hg
      have hs : x.spot = none := by
        have h0 : 0 < zs.length := by omega
        have := World.cell?_spot (hcell 0 h0)
        simpa [Addr.add] using this
      obtain ⟨a1, a2, a3⟩ := add_off x j
      refine ⟨hs, ?_⟩
      have e : x.add j = ⟨x.block, x.off + j, none⟩ := by rw [← a1, ← a2, ← a3 hs]
      rw [e] at hg
      exact hg
    · cases hn

set_option maxRecDepth 100000 in
theorem fdeeds_arg {base : Nat} {v : Value} {d : DataW H} {ps : List MemPlace} (hok : Value.okWide Try.prog W .any base 59 v) (h : DataW.Trod enc Try.prog W 0 (fun _ => true) true 59 v d ps) : ∃ n, FDeeds W v n := by
  obtain ⟨a, len, cap, rfl⟩ := okWide_slice Try.underlying59 hok
  obtain ⟨fuel, hf⟩ := h
  rcases open_slice Try.underlying59 hf with ⟨hcs, _⟩ | ⟨p, l, c, m, n, D, Pl, hcs, _, hl, hm, hmm, _, hel⟩
  · simp [Value.cells] at hcs
    obtain ⟨rfl, rfl, rfl⟩ := hcs
    exact ⟨0, .inl ⟨rfl, rfl⟩⟩
  · simp [Value.cells] at hcs
    obtain ⟨rfl, rfl, rfl⟩ := hcs
    simp only [if_true] at hmm
    have hC : Try.prog.cellsOf 62 = 6 := by kernel_rfl
    have hC3 : Try.prog.cellsOf 3 = 1 := by kernel_rfl
    have hCs : Try.prog.cellsOf 9 = 1 := by kernel_rfl
    have hCb : Try.prog.cellsOf 22 = 1 := by kernel_rfl
    have hCn : Try.prog.cellsOf 54 = 1 := by kernel_rfl
    refine ⟨len, .inr ⟨p, cap, rfl, hl, hm, fun i hi => ?_⟩⟩
    obtain ⟨cs, h1, h2⟩ := hel i (by omega)
    rw [hC] at h1
    obtain ⟨ys, n', _, hy, hlen, hyl, hfd⟩ := DataW.trod_struct Try.underlying62 h2
    obtain ⟨_, hcl, hat⟩ := World.cells?_some h1
    match cs, hcl with
    | [c0, c1, c2, c3, c4, c5], _ =>
      have f0 : DataW.trod enc Try.prog W 0 (fun _ => true) true n' 3 (([c0, c1, c2, c3, c4, c5].drop 0).take (Try.prog.cellsOf 3)) = ys[0]? := hfd 0 _ rfl
      have f1 : DataW.trod enc Try.prog W 0 (fun _ => true) true n' 3 (([c0, c1, c2, c3, c4, c5].drop 1).take (Try.prog.cellsOf 3)) = ys[1]? := hfd 1 _ rfl
      have f2 : DataW.trod enc Try.prog W 0 (fun _ => true) true n' 9 (([c0, c1, c2, c3, c4, c5].drop 2).take (Try.prog.cellsOf 9)) = ys[2]? := hfd 2 _ rfl
      have f3 : DataW.trod enc Try.prog W 0 (fun _ => true) true n' 9 (([c0, c1, c2, c3, c4, c5].drop 3).take (Try.prog.cellsOf 9)) = ys[3]? := hfd 3 _ rfl
      have f4 : DataW.trod enc Try.prog W 0 (fun _ => true) true n' 22 (([c0, c1, c2, c3, c4, c5].drop 4).take (Try.prog.cellsOf 22)) = ys[4]? := hfd 4 _ rfl
      have f5 : DataW.trod enc Try.prog W 0 (fun _ => true) true n' 54 (([c0, c1, c2, c3, c4, c5].drop 5).take (Try.prog.cellsOf 54)) = ys[5]? := hfd 5 _ rfl
      rw [hC3] at f0 f1
      rw [hCs] at f2 f3
      rw [hCb] at f4
      rw [hCn] at f5
      simp only [List.drop, List.take] at f0 f1 f2 f3 f4 f5
      have g0 := hat 0 (by omega)
      have g1 := hat 1 (by omega)
      have g2 := hat 2 (by omega)
      have g3 := hat 3 (by omega)
      have g4 := hat 4 (by omega)
      have g5 := hat 5 (by omega)
      have z0 : ys[0]? = some (ys[0]'(by rw [hyl]; decide)) := List.getElem?_eq_getElem _
      have z1 : ys[1]? = some (ys[1]'(by rw [hyl]; decide)) := List.getElem?_eq_getElem _
      have z2 : ys[2]? = some (ys[2]'(by rw [hyl]; decide)) := List.getElem?_eq_getElem _
      have z3 : ys[3]? = some (ys[3]'(by rw [hyl]; decide)) := List.getElem?_eq_getElem _
      have z4 : ys[4]? = some (ys[4]'(by rw [hyl]; decide)) := List.getElem?_eq_getElem _
      have z5 : ys[5]? = some (ys[5]'(by rw [hyl]; decide)) := List.getElem?_eq_getElem _
      rw [z0] at f0
      rw [z1] at f1
      rw [z2] at f2
      rw [z3] at f3
      rw [z4] at f4
      rw [z5] at f5
      obtain ⟨d, e0, _, hd⟩ := DataW.trod_int Try.underlying3 f0
      obtain ⟨k, e1, _, hk⟩ := DataW.trod_int Try.underlying3 f1
      obtain ⟨s2, e2, _, hs2⟩ := DataW.trod_string Try.underlying9 f2
      obtain ⟨s3, e3, _, hs3⟩ := DataW.trod_string Try.underlying9 f3
      obtain ⟨bs, hb⟩ := bytes_of_trod Try.underlying22 Try.underlying5 (by kernel_rfl) f4
      obtain ⟨ns, hns⟩ := ints_of_trod Try.underlying54 Try.underlying3 (by kernel_rfl) f5
      cases e0
      cases e1
      cases e2
      cases e3
      have hsp : p.spot = none := by
        obtain ⟨cs0, h10, _⟩ := hel 0 (by omega)
        rw [hC] at h10
        obtain ⟨_, hcl0, hat0⟩ := World.cells?_some h10
        match cs0, hcl0 with
        | [d0, d1, d2, d3, d4, d5], _ =>
          have := World.cell?_spot ((hat0 0 (by omega)).trans rfl)
          simpa [Addr.add] using this
      have ha : ∀ j, (p.add (i * 6)).add j = ⟨p.block, p.off + i * 6 + j, none⟩ := fun j => by
        rw [add_none p _ hsp, add_none _ _ rfl]
      rw [ha] at g0 g1 g2 g3 g4 g5
      refine ⟨hsp, ⟨d, k, s2, s3, c4, bs, c5, ns⟩, ⟨hb, hns, hs2, hs3, i64_bounds d hd, i64_bounds k hk⟩, fun j u hj => ?_⟩
      match j, hj with
      | 0, hj => cases hj; exact g0
      | 1, hj => cases hj; exact g1
      | 2, hj => cases hj; exact g2
      | 3, hj => cases hj; exact g3
      | 4, hj => cases hj; exact g4
      | 5, hj => cases hj; exact g5
end
end Go.Proofs.Ytpnlcogbahjnoaa.F
