/- TimerPlays answers true, walked. Conditions stand at each theorem. -/
import Derived.Test.YtjfdpggbpmicnaaTimerBoth
import Derived.Test.YtjfdpggbpmicnaaArgs
import Derived.Deep.Slices
import Derived.Deep.Fields
namespace Go.Proofs.Ytjfdpggbpmicnaa.T
open Go.RowKit Go.Proofs.Ytjfdpggbpmicnaa.M Go.ChangeShapes Go.WideShapes Go.Deep
set_option linter.unusedVariables false

/-- l is a slice of n deeds -/
def Deeds (w : World) (l : Value) (n : Nat) : Prop := (l = .slice none 0 0 ∧ n = 0) ∨
  ∃ p cap, l = .slice (some p) n cap ∧ n ≤ cap ∧ cap ≤ maxLen ∧ ∀ i, i < n → p.spot = none ∧ ∃ d k v bs, w.cell? ⟨p.block, p.off + i * 3, none⟩ = some (.int .i64 d) ∧ w.cell? ⟨p.block, p.off + i * 3 + 1, none⟩ = some (.int .i64 k) ∧
    w.cell? ⟨p.block, p.off + i * 3 + 2, none⟩ = some v ∧ Bytes w v bs ∧ (-9223372036854775808 ≤ d ∧ d ≤ 9223372036854775807) ∧ (-9223372036854775808 ≤ k ∧ k ≤ 9223372036854775807)
theorem Deeds.shape {w : World} {l : Value} {n : Nat} (h : Deeds w l n) : ∃ a cap, l = .slice a n cap ∧ n ≤ cap ∧ cap ≤ 9223372036854775807 := by
  rcases h with ⟨rfl, rfl⟩ | ⟨p, cap, rfl, hn, hm, _⟩
  · exact ⟨none, 0, rfl, Nat.le_refl _, by omega⟩
  · exact ⟨some p, cap, rfl, hn, by simp only [maxLen] at hm; omega⟩
theorem info45 : (Try.prog.info? 45).map (·.size) = some 3 := by kernel_rfl
theorem Deeds.at {w : World} {l : Value} {n : Nat} (h : Deeds w l n) (i : Nat) (hi : i < n) : ∃ g o d k v bs, (∀ (q : IntKind) (w' : World), (Instr.indexAt 43 l (.int q i)).run Try.prog w' = .ok (.pointer (some ⟨g, o, none⟩)) w') ∧
    w.cell? ⟨g, o, none⟩ = some (.int .i64 d) ∧ w.cell? ⟨g, o + 1, none⟩ = some (.int .i64 k) ∧ w.cell? ⟨g, o + 2, none⟩ = some v ∧ Bytes w v bs ∧ g < w.heap.size ∧
    (-9223372036854775808 ≤ d ∧ d ≤ 9223372036854775807) ∧ (-9223372036854775808 ≤ k ∧ k ≤ 9223372036854775807) := by
  rcases h with ⟨rfl, rfl⟩ | ⟨⟨g, off, sp⟩, cap, rfl, hn, hm, hc⟩
  · omega
  · obtain ⟨h1, d, k, v, bs, c0, c1, c2, hb, hd, hk⟩ := hc i hi
    simp only at h1
    subst h1
    refine ⟨g, off + i * 3, d, k, v, bs, fun q w' => ?_, c0, c1, c2, hb, World.block_lt_of_cell? w _ c0, hd, hk⟩
    have hs := info45
    cases hq : Try.prog.info? 45 with
    | none => simp [hq] at hs
    | some x =>
      simp [hq] at hs
      simp [Instr.indexAt, run_underlying Try.underlying43, asIntOf, sizeOf, typeInfo, hq, hs, hi, add_map]

theorem add_none (p : Addr) (j : Nat) (h : p.spot = none) : p.add j = ⟨p.block, p.off + j, none⟩ := by
  obtain ⟨b, o, sp⟩ := p
  simp only at h
  subst h
  unfold Addr.add
  split <;> simp_all

section
variable {H : Type} {enc : TypeId × Value → H} {W : World}
theorem bytes_of_trod {T E : TypeId} {fuel : Nat} {v : Value} {x : DataW H × List MemPlace} (hT : Try.prog.underlying T = some (.slice E)) (hE : Try.prog.underlying E = some (.int .u8)) (hc : Try.prog.cellsOf E = 1)
    (h : DataW.trod enc Try.prog W 0 (fun _ => true) true fuel T [v] = some x) : ∃ bs, Bytes W v bs := by
  rcases open_ints hT hE hc h with ⟨hcs, _⟩ | ⟨x, l, c, zs, hcs, _, hl, hm, hz, _, hcell, hwz⟩
  · simp at hcs
    subst hcs
    exact ⟨[], Reads.nil W 1⟩
  · simp at hcs
    subst hcs
    simp only [if_true] at hz
    refine ⟨(zs.take l).map (fun n => UInt8.ofNat n.toNat), ?_⟩
    have hlen : ((zs.take l).map (fun n => UInt8.ofNat n.toNat)).length = l := by simp; omega
    refine ⟨by simp, .inr ⟨x, c, by rw [hlen], by rw [hlen]; exact hl, hm, fun j u hj => ?_⟩⟩
    rw [List.map_map, List.getElem?_map, Option.map_eq_some_iff] at hj
    obtain ⟨n, hn, rfl⟩ := hj
    rw [List.getElem?_take] at hn
    split at hn
    · rename_i hjl
      have hjz : j < zs.length := by omega
      have hg := hcell j hjz
      have hnn : zs.getD j 0 = n := by rw [List.getD_eq_getElem?_getD, hn]; rfl
      rw [hnn] at hg
      obtain ⟨b, rfl⟩ := u8_of n (hwz n (List.mem_of_getElem? hn))
      have hs : x.spot = none := by
        have h0 : 0 < zs.length := by omega
        have := World.cell?_spot (hcell 0 h0)
        simpa [Addr.add] using this
      obtain ⟨a1, a2, a3⟩ := add_off x j
      refine ⟨hs, ?_⟩
      have e : x.add j = ⟨x.block, x.off + j, none⟩ := by rw [← a1, ← a2, ← a3 hs]
      rw [e] at hg
      simpa [u8] using hg
    · cases hn

theorem deeds_arg {base : Nat} {v : Value} {d : DataW H} {ps : List MemPlace} (hok : Value.okWide Try.prog W .any base 43 v) (h : DataW.Trod enc Try.prog W 0 (fun _ => true) true 43 v d ps) : ∃ n, Deeds W v n := by
  obtain ⟨a, len, cap, rfl⟩ := okWide_slice Try.underlying43 hok
  obtain ⟨fuel, hf⟩ := h
  rcases open_slice Try.underlying43 hf with ⟨hcs, _⟩ | ⟨p, l, c, m, n, D, Pl, hcs, _, hl, hm, hmm, _, hel⟩
  · simp [Value.cells] at hcs
    obtain ⟨rfl, rfl, rfl⟩ := hcs
    exact ⟨0, .inl ⟨rfl, rfl⟩⟩
  · simp [Value.cells] at hcs
    obtain ⟨rfl, rfl, rfl⟩ := hcs
    simp only [if_true] at hmm
    have hC : Try.prog.cellsOf 45 = 3 := by kernel_rfl
    have hC3 : Try.prog.cellsOf 3 = 1 := by kernel_rfl
    have hC34 : Try.prog.cellsOf 34 = 1 := by kernel_rfl
    refine ⟨len, .inr ⟨p, cap, rfl, hl, hm, fun i hi => ?_⟩⟩
    obtain ⟨cs, h1, h2⟩ := hel i (by omega)
    rw [hC] at h1
    obtain ⟨ys, n', _, hy, hlen, hyl, hfd⟩ := DataW.trod_struct Try.underlying45 h2
    obtain ⟨_, hcl, hat⟩ := World.cells?_some h1
    match cs, hcl with
    | [c0, c1, c2], _ =>
      have f0 : DataW.trod enc Try.prog W 0 (fun _ => true) true n' 3 (([c0, c1, c2].drop 0).take (Try.prog.cellsOf 3)) = ys[0]? := hfd 0 _ rfl
      have f1 : DataW.trod enc Try.prog W 0 (fun _ => true) true n' 3 (([c0, c1, c2].drop 1).take (Try.prog.cellsOf 3)) = ys[1]? := hfd 1 _ rfl
      have f2 : DataW.trod enc Try.prog W 0 (fun _ => true) true n' 34 (([c0, c1, c2].drop 2).take (Try.prog.cellsOf 34)) = ys[2]? := hfd 2 _ rfl
      rw [hC3] at f0 f1
      rw [hC34] at f2
      simp only [List.drop, List.take] at f0 f1 f2
      have g0 := hat 0 (by omega)
      have g1 := hat 1 (by omega)
      have g2 := hat 2 (by omega)
      have z0 : ys[0]? = some (ys[0]'(by rw [hyl]; decide)) := List.getElem?_eq_getElem _
      have z1 : ys[1]? = some (ys[1]'(by rw [hyl]; decide)) := List.getElem?_eq_getElem _
      have z2 : ys[2]? = some (ys[2]'(by rw [hyl]; decide)) := List.getElem?_eq_getElem _
      rw [z0] at f0
      rw [z1] at f1
      rw [z2] at f2
      obtain ⟨d, e0, _, hd⟩ := DataW.trod_int Try.underlying3 f0
      obtain ⟨k, e1, _, hk⟩ := DataW.trod_int Try.underlying3 f1
      obtain ⟨bs, hb⟩ := bytes_of_trod Try.underlying34 Try.underlying5 (by kernel_rfl) f2
      cases e0
      cases e1
      have hsp : p.spot = none := by
        obtain ⟨cs0, h10, _⟩ := hel 0 (by omega)
        rw [hC] at h10
        obtain ⟨_, hcl0, hat0⟩ := World.cells?_some h10
        match cs0, hcl0 with
        | [d0, d1, d2], _ =>
          have := World.cell?_spot ((hat0 0 (by omega)).trans rfl)
          simpa [Addr.add] using this
      have ha : ∀ j, (p.add (i * 3)).add j = ⟨p.block, p.off + i * 3 + j, none⟩ := fun j => by
        rw [add_none p _ hsp, add_none _ _ rfl]
      rw [ha] at g0 g1 g2
      exact ⟨hsp, d, k, c2, bs, g0, g1, g2, hb, i64_bounds d hd, i64_bounds k hk⟩
end
end Go.Proofs.Ytjfdpggbpmicnaa.T
