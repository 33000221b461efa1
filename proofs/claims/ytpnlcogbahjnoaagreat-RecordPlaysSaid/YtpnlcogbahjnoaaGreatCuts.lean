/- What a beginning of a file of frames opens with; an Append and what it leaves. Conditions stand at each theorem. -/
import Derived.Test.YtpnlcogbahjnoaaGreatWhole
namespace Go.Proofs.YtpnlcogbahjnoaaGreat.F
open Go.RowKit Go.Proofs.YtpnlcogbahjnoaaGreat.M
set_option linter.unusedVariables false

def endOf (ls : List (List (List UInt8))) (j : Nat) : Nat := (fileOf (ls.take j)).length
theorem endOf_zero (ls : List (List (List UInt8))) : endOf ls 0 = 0 := by simp [endOf, fileOf]
theorem endOf_all (ls : List (List (List UInt8))) : endOf ls ls.length = (fileOf ls).length := by rw [endOf, List.take_length]
theorem endOf_succ (ls : List (List (List UInt8))) (j : Nat) (hj : j < ls.length) : endOf ls (j + 1) = endOf ls j + (fileOf [ls[j]]).length := by
  rw [endOf, List.take_succ_eq_append_getElem hj, fileOf_append, List.length_append]
  rfl
theorem endOf_mono (ls : List (List (List UInt8))) {j k : Nat} (h : j ≤ k) : endOf ls j ≤ endOf ls k := by
  have : fileOf (ls.take k) = fileOf (ls.take j) ++ fileOf ((ls.take k).drop j) := by
    rw [← fileOf_append]
    congr 1
    rw [← List.take_append_drop j (ls.take k)]
    congr 1
    · rw [List.take_take, Nat.min_eq_left h]
    · rw [List.take_append_drop]
  rw [endOf, endOf, this, List.length_append]
  omega
theorem pick (ls : List (List (List UInt8))) (q : Nat) : ∀ n, ∃ K, K ≤ n ∧ endOf ls K ≤ q ∧ ∀ j, K < j → j ≤ n → q < endOf ls j
  | 0 => ⟨0, Nat.le_refl _, by rw [endOf_zero]; omega, fun j h1 h2 => by omega⟩
  | n + 1 => by
    by_cases h : endOf ls (n + 1) ≤ q
    · exact ⟨n + 1, Nat.le_refl _, h, fun j h1 h2 => by omega⟩
    · obtain ⟨K, h1, h2, h3⟩ := pick ls q n
      refine ⟨K, by omega, h2, fun j h4 h5 => ?_⟩
      by_cases hj : j = n + 1
      · subst hj; omega
      · exact h3 j h4 (by omega)
theorem pick_all (ls : List (List (List UInt8))) (hfit : ∀ l ∈ ls, Fits l) (q : Nat) (hq : q ≤ (fileOf ls).length) : ∃ K, K ≤ ls.length ∧ (∀ j, j ≤ ls.length → (endOf ls j ≤ q ↔ j ≤ K)) ∧
    (fileOf ls).take q = fileOf (ls.take K) ++ (fileOf (ls.drop K)).take (q - endOf ls K) ∧ scan ((fileOf ls).take q) = some ((ls.take K).flatten, endOf ls K) := by
  obtain ⟨K, h1, h2, h3⟩ := pick ls q ls.length
  have he : fileOf ls = fileOf (ls.take K) ++ fileOf (ls.drop K) := by rw [← fileOf_append, List.take_append_drop]
  have ht : (fileOf ls).take q = fileOf (ls.take K) ++ (fileOf (ls.drop K)).take (q - endOf ls K) := by
    conv => lhs; rw [he]
    rw [List.take_append, List.take_of_length_le h2]
    rfl
  refine ⟨K, h1, fun j hj => ⟨fun h => ?_, fun h => Nat.le_trans (endOf_mono ls h) h2⟩, ht, ?_⟩
  · rcases Nat.lt_or_ge K j with hh | hh
    · have := h3 j hh hj; omega
    · exact hh
  · rw [ht, scan_file (ls.take K) _ (fun l hl => hfit l (List.mem_of_mem_take hl))]
    by_cases hK : K = ls.length
    · rw [hK, List.drop_of_length_le (Nat.le_refl _)]
      simp [fileOf, scan_nil, endOf]
    · have hlt : K < ls.length := by omega
      have h4 := h3 (K + 1) (by omega) (by omega)
      rw [endOf_succ ls K hlt] at h4
      have hd : ls.drop K = ls[K] :: ls.drop (K + 1) := List.drop_eq_getElem_cons hlt
      have hne : ls[K] ≠ [] := by
        intro h0
        rw [h0] at h4
        simp [fileOf] at h4
        omega
      have hf : fileOf (ls.drop K) = frame (body ls[K]) ++ fileOf (ls.drop (K + 1)) := by
        rw [hd]
        have : fileOf (ls[K] :: ls.drop (K + 1)) = fileOf [ls[K]] ++ fileOf (ls.drop (K + 1)) := by rw [← fileOf_append]; rfl
        rw [this, fileOf_one _ hne]
      rw [fileOf_one _ hne] at h4
      have htk : (fileOf (ls.drop K)).take (q - endOf ls K) = (frame (body ls[K])).take (q - endOf ls K) := by
        rw [hf, List.take_append_of_le_length (by omega)]
      rw [htk, scan_short (body ls[K]) (hfit _ (List.getElem_mem hlt)) _ (by omega)]
      simp [endOf]

theorem lj_app2 {W w : World} {f b p : Nat} {ls : List (List (List UInt8))} (h : LJ W w f b p ls) (hls : ls.length ≤ 1000) (v : Value) (new : List (List UInt8)) (hs : Small new) (hv : Recs W v new) :
    Calls Tryz.prog 12 #[.pointer (some ⟨p, 0, none⟩), v] w fun e w' => e = .returned (.int .i64 0) ∧ LJ W w' f b p (ls ++ [new]) ∧ Fr (fun g => (g = f ∨ g = b) ∨ Tag w g 61 ∨ Tag w g 52) w w' := by
  obtain ⟨m, st, hF, hm, hs0, hs1⟩ := h.disk
  obtain ⟨lv, hlv⟩ := h.log.v
  have hfit : ∀ l ∈ ls ++ [new], Small l := by
    intro l hl
    rcases List.mem_append.1 hl with hl | hl
    · exact h.fit l hl
    · obtain rfl : l = new := by simpa using hl
      exact hs
  by_cases hne : new = []
  · subst hne
    obtain ⟨a, cap, rfl, -, -⟩ := hv.shape
    refine (logapp_nil w _ p f _ _ h.log a cap).mono ?_
    rintro e w' ⟨rfl, rfl⟩
    have e1 : fileOf (ls ++ [[]]) = fileOf ls := by rw [fileOf_append]; simp [fileOf]
    exact ⟨rfl, ⟨h.low, h.fN, h.bN, ⟨m, st, by rw [e1]; exact hF, by simp; omega, hs0, by simp; omega⟩, by simpa using h.log, hfit⟩, Fr.refl _ _⟩
  · have hfl := fileOf_len ls h.fit
    have hfl2 := flat_len ls h.fit
    refine (logapp_ok w W.heap.size p f b m st [114] (fileOf ls) _ (-1) (by decide) (by decide) (by omega) hF ⟨#[114]⟩ rfl rfl lv ls.flatten hlv h.low.size v new (Lib.hid (fun w' hf => hv.old (h.low.trans (hf.below h.low.size (hlv.base_le h.fN h.bN))) (Nat.le_refl _))) hne hs.fits (by omega) (by omega) (by omega) hs0 (by omega)).mono ?_
    rintro e w' ⟨rfl, hF', ⟨lv', hl', -⟩, hfr⟩
    have e1 : fileOf (ls ++ [new]) = fileOf ls ++ frame (body new) := by rw [fileOf_append, fileOf_one _ hne]
    refine ⟨rfl, ⟨h.low.trans (hfr.below h.low.size (hlv.base_le h.fN h.bN)), h.fN, h.bN, ⟨m + 2, st + 2, by rw [e1]; exact hF', by simp; omega, by omega, by simp; omega⟩, ?_, hfit⟩, hfr.mono ?_⟩
    · have := hl'.at_
      simpa using this
    · rintro g hg (hh | hh | hh)
      · exact .inl hh
      · subst hh; exact .inr (.inl ⟨_, _, hlv.2.1⟩)
      · exact .inr (.inr (hlv.2.2.tag hh).1)

/-- a log opened anew at a beginning of a file, whole or torn -/
theorem cut_open {w : World} {f b m : Nat} {st : Int} {ls : List (List (List UInt8))} (hsm : ∀ l ∈ ls, Small l) (h100 : ls.length ≤ 100) {q K : Nat} (hq : q ≤ (fileOf ls).length) (hK : K ≤ ls.length) (hEK : endOf ls K ≤ q)
    (ht : (fileOf ls).take q = fileOf (ls.take K) ++ (fileOf (ls.drop K)).take (q - endOf ls K)) (hsc : scan ((fileOf ls).take q) = some ((ls.take K).flatten, endOf ls K))
    (h : Files w f b m (one [114] ((fileOf ls).take q) q) st (-1) false) (hm : m ≤ 1000) (h0 : 0 ≤ st) (h1 : st ≤ 1000) :
    Calls Tryz.prog 21 #[.pointer (some ⟨f, 0, none⟩), .string ⟨#[114]⟩] w fun e w' => ∃ p, e = .returned (.tuple #[.pointer (some ⟨p, 0, none⟩), .int .i64 0]) ∧ LogAt w' w.heap.size p f ⟨#[114]⟩ (ls.take K).flatten ∧
      (∃ (m' : Nat) (st' : Int), m' ≤ 1002 ∧ 0 ≤ st' ∧ st' ≤ 1002 ∧ Files w' f b m' (one [114] (fileOf (ls.take K)) (fileOf (ls.take K)).length) st' (-1) false) ∧ Fr (fun k => k = f ∨ k = b) w w' := by
  have hfl := fileOf_len ls hsm
  have hql : ((fileOf ls).take q).length = q := by simp; omega
  by_cases hc : endOf ls K = q
  · have e1 : (fileOf ls).take q = fileOf (ls.take K) := by rw [ht, hc, Nat.sub_self, List.take_zero, List.append_nil]
    have e2 : (fileOf (ls.take K)).length = q := hc
    refine (open_whole w f b m st [114] _ _ h ⟨#[114]⟩ rfl rfl (by omega) (by omega) h0 (by omega) _ (by rw [hql, hsc, hc])).mono ?_
    rintro e w' ⟨p, rfl, hl', hF', hb⟩
    rw [e1] at hF'
    exact ⟨p, rfl, hl', ⟨m, st, by omega, h0, by omega, by rw [e2]; exact hF'⟩, Fr.of_below hb⟩
  · refine (open_cut w f b m st [114] _ _ h ⟨#[114]⟩ rfl rfl (by omega) (by omega) h0 (by omega) _ (endOf ls K) hsc (by omega)).mono ?_
    rintro e w' ⟨p, rfl, hl', hF', hfr⟩
    have e1 : ((fileOf ls).take q).take (endOf ls K) = fileOf (ls.take K) := by
      rw [ht]
      exact take_app _ _ _ rfl
    rw [e1] at hF'
    exact ⟨p, rfl, hl', ⟨m + 2, st + 2, by omega, by omega, by omega, hF'⟩, hfr⟩
end Go.Proofs.YtpnlcogbahjnoaaGreat.F
