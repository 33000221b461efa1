/- Names: a disk's names, sorted. Conditions stand at each theorem. -/
import Derived.Test.YtpnlcogbahjnoaaGreatDeeds
import Derived.Test.YtpnlcogbahjnoaaGreatKeys
namespace Go.Proofs.YtpnlcogbahjnoaaGreat.F
open Go.RowKit Go.Proofs.YtpnlcogbahjnoaaGreat.M Go.Maps Go.Sort
set_option linter.unusedVariables false

theorem keys_of {w : World} {b n : Nat} {D : DataW Value} {C : Disk} (hD : MapAt w b n D) (hH : Holds w D C) : (∀ k, k ∈ strKeys D ↔ (C k).isSome = true) ∧ (strKeys D).Nodup ∧ Maps.size D ≤ n ∧ ∀ k ∈ strKeys D, k.length ≤ maxLen := by
  obtain ⟨es, rfl, hp, hk⟩ := World.ownsMap.entries hD KS
  have hs : ∀ p ∈ es, ∃ x, p.1 = .string x := by
    obtain ⟨arr, clock, hb, Ft, _, he⟩ := hD
    have h1 := WideElems.Fit.strKeys (WideMaps.string_law Tryz.underlying9) Ft
    simp only [DataW.map.injEq] at he
    rw [he]
    exact ChangeMaps.strKeys_perm (WideShapes.sorted_perm _).symm h1
  refine ⟨fun k => ?_, ?_, World.ownsMap.size_le hD, strKeys_le hD Tryz.underlying9⟩
  · have h1 : k ∈ strKeys (DataW.map es) ↔ Maps.has (DataW.map es) (.string k) = true := by
      simp only [strKeys, List.mem_map, Maps.has_eq, List.any_eq_true]
      constructor
      · rintro ⟨p, hp', rfl⟩
        obtain ⟨x, hx⟩ := hs p hp'
        exact ⟨p, hp', by rw [hx]; simp [strOf, Lit.sameKey]⟩
      · rintro ⟨p, hp', he⟩
        obtain ⟨x, hx⟩ := hs p hp'
        refine ⟨p, hp', ?_⟩
        rw [hx] at he ⊢
        simpa [strOf, Lit.sameKey] using he
    rw [h1]
    cases hc : C k with
    | none => simp [(hH k).1 hc]
    | some x => simp [((hH k).2 x.1 x.2 hc).1]
  · simp only [strKeys]
    rw [List.Nodup, List.pairwise_map]
    refine hp.imp_of_mem ?_
    intro p q hp' hq' hne he
    obtain ⟨x, hx⟩ := hs p hp'
    obtain ⟨y, hy⟩ := hs q hq'
    rw [hx, hy] at he hne
    simp [strOf] at he
    exact hne (by rw [he])

set_option maxHeartbeats 1000000 in
theorem names_any (w : World) (f b m : Nat) (C : Disk) (steps fuse : Int) (dead : Bool) (h : Files w f b m C steps fuse dead) (hm : m ≤ 1099511627776) :
    Calls Tryz.prog 37 #[.pointer (some ⟨f, 0, none⟩)] w fun e w' => ∃ (v : Value) (ss : List (List UInt8)), e = .returned v ∧ Reads w' 1 v ss.length (ss.map encStr) ∧ (∀ g, v.ownBlock = some g → ss ≠ [] → w.heap.size ≤ g) ∧ (∀ k, k ∈ ss ↔ (C k).isSome = true) ∧ ss.Nodup ∧ ss.length ≤ m ∧
      (∀ k ∈ ss, k.length ≤ maxLen) ∧ Below w.heap.size w w' := by
  obtain ⟨D, hD, hH⟩ := h.map
  obtain ⟨hk1, hk2, hk3, hk4⟩ := keys_of hD hH
  have c1 := cell_at h.at_ 1
  simp at c1
  have HD := Lib.hid hD
  have HK1 := Lib.hid hk1
  have HK4 := Lib.hid hk4
  clear hD hH h hk1 hk4
  go_enter Tryz.func37, Tryz.ntmps37
  go_wp2_with fail
  refine (callsIn_wide.1 (K.Tryz.maps_Keys_65 _ w)).mono ?_
  rintro e w1 ⟨rfl, rfl⟩
  go_wp2_with fail
  refine (callsIn_wide.1 (K.Tryz.slices_Sorted_keys_64_65 b m D RV w HD.out (by simp only [maxLen]; omega) (by omega))).mono ?_
  rintro e w' ⟨v, ss, rfl, hS, hrow, hnil, hb⟩
  have HS := Lib.hid hS
  have HR := Lib.hid hrow
  clear hS hrow hnil
  go_wp2_with fail
  go_ret
  have hp : (ss.mergeSort (fun x y => decide (x ≤ y))).Perm (strKeys D) := (List.mergeSort_perm _ _).trans HS.out
  refine ⟨v, ss.mergeSort (fun x y => decide (x ≤ y)), rfl, ?_, ?_, fun k => (hp.mem_iff).trans (HK1.out k), hp.nodup_iff.2 hk2, ?_, fun k hk => HK4.out k (hp.mem_iff.1 hk), ?_⟩
  · have hr := HR.out
    have hlen : (ss.mergeSort (fun x y => decide (x ≤ y))).length = ss.length := List.length_mergeSort _
    rw [hlen]
    refine ⟨hr.1, ?_⟩
    rcases hr.2 with ⟨rfl, h0⟩ | ⟨g, cap, cur, rfl, hg, hc, hn, hmx, hsz, htk⟩
    · exact .inl ⟨rfl, h0⟩
    · refine .inr ⟨⟨g, 0, none⟩, cap, rfl, hn, hmx, fun j u hj => ⟨rfl, ?_⟩⟩
      rw [cell_at hc, Nat.zero_add]
      rw [← htk, List.getElem?_take] at hj
      split at hj
      · simpa using hj
      · cases hj
  · intro g hg hne
    rcases HR.out.2 with ⟨rfl, h0⟩ | ⟨g', cap, cur, rfl, hg', _⟩
    · simp [Value.ownBlock] at hg
    · simp only [Value.ownBlock, Option.some.injEq] at hg
      subst hg
      have : (w.alloc (.cells #[.map (some b)] 53)).heap.size = w.heap.size + 1 := by simp
      omega
  · have e1 := hp.length_eq
    have e2 : (strKeys D).length = Maps.size D := by
      obtain ⟨es, he, _⟩ := World.ownsMap.entries HD.out KS
      rw [he]
      simp [strKeys, Maps.size]
    omega
  · exact ((Below.refl _ w).alloc (Nat.le_refl _) _).trans (hb.mono (by simp))
end Go.Proofs.YtpnlcogbahjnoaaGreat.F
