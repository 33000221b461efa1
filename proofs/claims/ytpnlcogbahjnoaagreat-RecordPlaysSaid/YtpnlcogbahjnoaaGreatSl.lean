/- Slices of bytes with both bounds. Conditions stand at each theorem. -/
import Derived.Test.YtpnlcogbahjnoaaGreatRef1
import Derived.Test.YtpnlcogbahjnoaaGreatArgs
namespace Go.Proofs.YtpnlcogbahjnoaaGreat.F
open Go.RowKit Go.Proofs.YtpnlcogbahjnoaaGreat.M
set_option linter.unusedVariables false
section
variable {P : Program}
/-- 'v[a:b]' -/
theorem slice_mid (T e : TypeId) (hT : P.underlying T = some (.slice e)) (i : TypeInfo) (hi : P.info? e = some i) (w : World) (hs : i.size = 1) (v : Value) (n : Nat) (xs : List Value) (h : Reads w 1 v n xs) (a b : Nat) (hab : a ≤ b) (hb : b ≤ n) :
    ∃ a' cap', (∀ (k k' : IntKind) (w' : World), (Instr.slice T v (some (.int k a)) (some (.int k' b)) none).run P w' = .ok (.slice a' (b - a) cap') w') ∧ Reads w 1 (.slice a' (b - a) cap') (b - a) ((xs.drop a).take (b - a)) ∧
      (Value.slice a' (b - a) cap').ownBlock = v.ownBlock ∧ cap' ≤ 9223372036854775807 ∧ b - a ≤ cap' := by
  rcases h.2 with ⟨rfl, rfl⟩ | ⟨p, cap, rfl, hn, hm, hcell⟩
  · obtain rfl : b = 0 := by omega
    obtain rfl : a = 0 := by omega
    refine ⟨none, 0, fun k k' w' => ?_, ?_, rfl, by omega, by omega⟩
    · simp [Instr.slice, run_underlying hT, Instr.sliceBounds, Instr.sliceBound, asIntOf, sizeOf, typeInfo, hi]
    · have hx : xs = [] := List.eq_nil_of_length_eq_zero (by simpa using h.1)
      subst hx
      simpa using Reads.nil w 1
  · have h1 := h.1
    refine ⟨some (if cap = a then p else p.add a), cap - a, fun k k' w' => ?_, ?_, ?_, by simp only [maxLen] at hm; omega, by omega⟩
    · have hbc : b ≤ cap := by omega
      simp [Instr.slice, run_underlying hT, Instr.sliceBounds, Instr.sliceBound, asIntOf, sizeOf, typeInfo, hi, hs, hab, hbc, ite_some]
    · refine ⟨by rw [List.length_take, List.length_drop]; omega, .inr ⟨_, cap - a, rfl, by omega, by omega, fun j u hj => ?_⟩⟩
      rw [List.getElem?_take] at hj
      split at hj
      · rw [List.getElem?_drop] at hj
        rw [if_neg (by omega)]
        obtain ⟨g1, g2⟩ := hcell _ u hj
        obtain ⟨a1, a2, a3⟩ := add_off p a
        rw [a1, a2, Nat.add_assoc]
        exact ⟨a3 g1, g2⟩
      · cases hj
    · simp only [Value.ownBlock]
      split
      · rfl
      · rw [(add_off p _).1]
/-- 'v[:c:c]' -/
theorem slice_cap (T e : TypeId) (hT : P.underlying T = some (.slice e)) (i : TypeInfo) (hi : P.info? e = some i) (w : World) (hs : i.size = 1) (v : Value) (n : Nat) (xs : List Value) (h : Reads w 1 v n xs) (c : Nat) (hc : c ≤ n) :
    ∃ a', (∀ (k k' : IntKind) (w' : World), (Instr.slice T v none (some (.int k c)) (some (.int k' c))).run P w' = .ok (.slice a' c c) w') ∧ Reads w 1 (.slice a' c c) c (xs.take c) ∧ (Value.slice a' c c).ownBlock = v.ownBlock := by
  rcases h.2 with ⟨rfl, rfl⟩ | ⟨p, cap, rfl, hn, hm, hcell⟩
  · obtain rfl : c = 0 := by omega
    refine ⟨none, fun k k' w' => ?_, ?_, rfl⟩
    · simp [Instr.slice, run_underlying hT, Instr.sliceBounds, Instr.sliceBound, asIntOf, sizeOf, typeInfo, hi]
    · simpa using Reads.nil w 1
  · have hcc : c ≤ cap := by omega
    refine ⟨some p, fun k k' w' => ?_, ?_, rfl⟩
    · have h00 : p.add 0 = p := by simp [Addr.add]
      simp [Instr.slice, run_underlying hT, Instr.sliceBounds, Instr.sliceBound, asIntOf, sizeOf, typeInfo, hi, hcc, h00]
    · have h1 := h.1
      refine ⟨by rw [List.length_take]; omega, .inr ⟨p, c, rfl, Nat.le_refl _, by omega, fun j u hj => hcell j u ?_⟩⟩
      rw [List.getElem?_take] at hj
      split at hj
      · exact hj
      · cases hj
end

theorem bytes_mid {w : World} {v : Value} {bs : List UInt8} (h : Bytes w v bs) (a b L : Nat) (hL : a + L = b) (hb : b ≤ bs.length) :
    ∃ a' cap', (∀ (k k' : IntKind) (w' : World), (Instr.slice 52 v (some (.int k a)) (some (.int k' b)) none).run Tryz.prog w' = .ok (.slice a' L cap') w') ∧ Bytes w (.slice a' L cap') ((bs.drop a).take L) ∧
      (Value.slice a' L cap').ownBlock = v.ownBlock ∧ cap' ≤ 9223372036854775807 ∧ L ≤ cap' := by
  subst hL
  obtain ⟨i, hi, hz0, hz1, hz2⟩ := info_parts infoU8
  obtain ⟨a', cap', h1, h2, h3, h4, h5⟩ := slice_mid 52 5 Tryz.underlying52 i hi w hz1 v _ _ h a (a + L) (by omega) hb
  rw [Nat.add_sub_cancel_left] at h1 h2 h3 h5
  refine ⟨a', cap', h1, ?_, h3, h4, h5⟩
  unfold Bytes
  rw [List.map_take, List.map_drop, List.length_take, List.length_drop, Nat.min_eq_left (by omega)]
  exact h2
theorem bytes_to {w : World} {v : Value} {bs : List UInt8} (h : Bytes w v bs) (b : Nat) (hb : b ≤ bs.length) :
    ∃ a' cap', (∀ (k : IntKind) (w' : World), (Instr.slice 52 v none (some (.int k b)) none).run Tryz.prog w' = .ok (.slice a' b cap') w') ∧ Bytes w (.slice a' b cap') (bs.take b) ∧
      (Value.slice a' b cap').ownBlock = v.ownBlock ∧ cap' ≤ 9223372036854775807 ∧ b ≤ cap' := by
  obtain ⟨i, hi, hz0, hz1, hz2⟩ := info_parts infoU8
  obtain ⟨a', cap', h1, h2, h3, h4, h5⟩ := slice_to 52 5 Tryz.underlying52 i hi w 1 hz1 v _ _ h b hb
  refine ⟨a', cap', h1, ?_, h3, h4, h5⟩
  unfold Bytes
  rw [List.map_take, List.length_take, Nat.min_eq_left hb]
  simpa using h2
theorem bytes_upto {w : World} {a : Option Addr} {n cap : Nat} {bs : List UInt8} (h : Bytes w (.slice a n cap) bs) (c : Nat) (hc : c ≤ bs.length) : Bytes w (.slice a c cap) (bs.take c) := by
  have hl : (bs.take c).length = c := by simp; omega
  refine ⟨by simp, ?_⟩
  rw [hl]
  rcases h.2 with ⟨h1, h2⟩ | ⟨p, k, h1, hn, hm, hcell⟩
  · obtain rfl : c = 0 := by omega
    cases h1
    exact .inl ⟨rfl, rfl⟩
  · cases h1
    refine .inr ⟨p, _, rfl, by omega, hm, fun j u hj => hcell j u ?_⟩
    rw [List.map_take, List.getElem?_take] at hj
    split at hj
    · exact hj
    · cases hj
theorem bytes_at {w : World} {a : Option Addr} {n cap : Nat} {bs : List UInt8} (h : Bytes w (.slice a n cap) bs) (c L : Nat) (hc : c + L ≤ bs.length) :
    Bytes w (.slice (Option.map (fun x : Addr => { block := x.block, off := x.off + c }) a) L (cap - c)) ((bs.drop c).take L) := by
  have hl : ((bs.drop c).take L).length = L := by simp; omega
  refine ⟨by simp, ?_⟩
  rw [hl]
  rcases h.2 with ⟨h1, h2⟩ | ⟨p, k, h1, hn, hm, hcell⟩
  · obtain rfl : c = 0 := by omega
    obtain rfl : L = 0 := by omega
    cases h1
    exact .inl ⟨rfl, rfl⟩
  · cases h1
    refine .inr ⟨_, _, rfl, by omega, by omega, fun j u hj => ?_⟩
    rw [List.map_take, List.getElem?_take] at hj
    split at hj
    · rw [List.map_drop, List.getElem?_drop] at hj
      obtain ⟨g1, g2⟩ := hcell _ u hj
      rw [← Nat.add_assoc] at g2
      exact ⟨rfl, g2⟩
    · cases hj
theorem bytes_add {w : World} {a : Option Addr} {n cap : Nat} {bs : List UInt8} (h : Bytes w (.slice a n cap) bs) (c L : Nat) (hc : c + L ≤ bs.length) :
    Bytes w (.slice (Option.map (fun x : Addr => x.add c) a) L (cap - c)) ((bs.drop c).take L) := by
  have hl : ((bs.drop c).take L).length = L := by simp; omega
  refine ⟨by simp, ?_⟩
  rw [hl]
  rcases h.2 with ⟨h1, h2⟩ | ⟨p, k, h1, hn, hm, hcell⟩
  · obtain rfl : c = 0 := by omega
    obtain rfl : L = 0 := by omega
    cases h1
    exact .inl ⟨rfl, rfl⟩
  · cases h1
    refine .inr ⟨_, _, rfl, by omega, by omega, fun j u hj => ?_⟩
    rw [List.map_take, List.getElem?_take] at hj
    split at hj
    · rw [List.map_drop, List.getElem?_drop] at hj
      obtain ⟨g1, g2⟩ := hcell _ u hj
      obtain ⟨a1, a2, a3⟩ := add_off p c
      rw [a1, a2]
      rw [← Nat.add_assoc] at g2
      exact ⟨a3 g1, g2⟩
    · cases hj
theorem bytes_from {w : World} {v : Value} {bs : List UInt8} (h : Bytes w v bs) (a : Nat) (ha : a ≤ bs.length) :
    ∃ a' cap', (∀ (k : IntKind) (w' : World), (Instr.slice 52 v (some (.int k a)) none none).run Tryz.prog w' = .ok (.slice a' (bs.length - a) cap') w') ∧ Bytes w (.slice a' (bs.length - a) cap') (bs.drop a) ∧
      (Value.slice a' (bs.length - a) cap').ownBlock = v.ownBlock ∧ cap' ≤ 9223372036854775807 ∧ bs.length - a ≤ cap' := by
  obtain ⟨i, hi, hz0, hz1, hz2⟩ := info_parts infoU8
  obtain ⟨a', cap', h1, h2, h3, h4, h5⟩ := slice_from 52 5 Tryz.underlying52 i hi w 1 hz1 v _ _ h a ha
  refine ⟨a', cap', h1, ?_, h3, h4, h5⟩
  unfold Bytes
  rw [List.map_drop, List.length_drop]
  simpa using h2
theorem bytes_cap {w : World} {v : Value} {bs : List UInt8} (h : Bytes w v bs) (c : Nat) (hc : c ≤ bs.length) :
    ∃ a', (∀ (k k' : IntKind) (w' : World), (Instr.slice 52 v none (some (.int k c)) (some (.int k' c))).run Tryz.prog w' = .ok (.slice a' c c) w') ∧ Bytes w (.slice a' c c) (bs.take c) ∧ (Value.slice a' c c).ownBlock = v.ownBlock := by
  obtain ⟨i, hi, hz0, hz1, hz2⟩ := info_parts infoU8
  obtain ⟨a', h1, h2, h3⟩ := slice_cap 52 5 Tryz.underlying52 i hi w hz1 v _ _ h c hc
  refine ⟨a', h1, ?_, h3⟩
  unfold Bytes
  rw [List.map_take, List.length_take, Nat.min_eq_left hc]
  exact h2
theorem bytes_ix {w : World} {v : Value} {bs : List UInt8} (h : Bytes w v bs) (j : Nat) (hj : j < bs.length) :
    ∃ g o, (∀ (k : IntKind) (w' : World), (Instr.indexAt 52 v (.int k j)).run Tryz.prog w' = .ok (.pointer (some ⟨g, o, none⟩)) w') ∧ w.cell? ⟨g, o, none⟩ = some (.int .u8 bs[j].toNat) ∧ v.ownBlock = some g := by
  obtain ⟨i, hi, hz0, hz1, hz2⟩ := info_parts infoU8
  exact index_reads 52 5 Tryz.underlying52 i hi w hz1 v _ _ h j (.int .u8 bs[j].toNat) (by simp [hj, M.u8])
end Go.Proofs.YtpnlcogbahjnoaaGreat.F
