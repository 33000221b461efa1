/- Frames, numbers and lists of records, written and read again. No program in sight. -/
import Derived.Test.YtpnlcogbahjnoaaGreatScan
namespace Go.Proofs.YtpnlcogbahjnoaaGreat.F
open Go.RowKit Go.Proofs.YtpnlcogbahjnoaaGreat.M
set_option linter.unusedVariables false

theorem decGo_enc (f : Nat) : ∀ (i acc m : Nat) (rest : List UInt8), m < 128 ^ (f + 1) → (0 < m ∨ i = 0) → acc + m * 2 ^ (7 * i) ≤ 1099511627776 → decGo (f + 1) i acc (encNum m ++ rest) = .ok (acc + m * 2 ^ (7 * i), rest) := by
  induction f with
  | zero =>
    intro i acc m rest hm h0 hb
    have hm' : m < 128 := by simpa using hm
    rw [encNum_small hm', List.singleton_append, decGo]
    have hc : (UInt8.ofNat m).toNat = m := by rw [UInt8.toNat_ofNat']; omega
    rw [hc, if_pos hm', Nat.mod_eq_of_lt hm', if_pos ⟨h0, hb⟩]
  | succ f ih =>
    intro i acc m rest hm h0 hb
    by_cases hm' : m < 128
    · rw [encNum_small hm', List.singleton_append, decGo]
      have hc : (UInt8.ofNat m).toNat = m := by rw [UInt8.toNat_ofNat']; omega
      rw [hc, if_pos hm', Nat.mod_eq_of_lt hm', if_pos ⟨h0, hb⟩]
    · rw [encNum_big hm', List.cons_append, decGo]
      have hc : (UInt8.ofNat (m % 128 + 128)).toNat = m % 128 + 128 := by rw [UInt8.toNat_ofNat']; omega
      have hc2 : (m % 128 + 128) % 128 = m % 128 := by omega
      have hp : (2 : Nat) ^ (7 * (i + 1)) = 128 * 2 ^ (7 * i) := by rw [Nat.mul_add, Nat.pow_add, Nat.mul_comm]
      have he : acc + m % 128 * 2 ^ (7 * i) + m / 128 * 2 ^ (7 * (i + 1)) = acc + m * 2 ^ (7 * i) := by
        rw [hp, ← Nat.mul_assoc, Nat.add_assoc, ← Nat.add_mul]
        congr 2
        omega
      rw [hc, if_neg (by omega), hc2, ih (i + 1) _ (m / 128) rest (by rw [Nat.div_lt_iff_lt_mul (by decide), ← Nat.pow_succ]; exact hm) (.inl (by omega)) (by rw [he]; exact hb), he]
theorem dec_enc (n : Nat) (hn : n ≤ 1099511627776) (rest : List UInt8) : dec (encNum n ++ rest) = .ok (n, rest) := by
  have := decGo_enc 5 0 0 n rest (by omega) (.inr rfl) (by simpa using hn)
  rw [dec]
  simpa using this
theorem decB_enc (r rest : List UInt8) (hr : r.length ≤ 1048576) : decB 1048576 (encNum r.length ++ (r ++ rest)) = .ok (r, rest) := by
  rw [decB, dec_enc _ (by omega)]
  simp only
  rw [if_pos hr, if_pos (by simp)]
  simp
theorem recsM_enc (rs : List (List UInt8)) (h : ∀ r ∈ rs, r.length ≤ 1048576) : recsM rs.length (encRecs rs) = some rs := by
  induction rs with
  | nil => simp [recsM, encRecs]
  | cons r rs ih =>
    have e : encRecs (r :: rs) = encNum r.length ++ (r ++ encRecs rs) := by simp [encRecs]
    rw [e, List.length_cons, recsM, decB_enc r _ (h r (by simp))]
    simp only
    rw [ih (fun r hr => h r (by simp [hr]))]
    rfl
theorem listM_body (rs : List (List UInt8)) (hn : rs.length ≤ 1099511627776) (h : ∀ r ∈ rs, r.length ≤ 1048576) : listM (body rs) = some rs := by
  rw [listM, body, dec_enc _ hn]
  simp only
  exact recsM_enc rs h

theorem beNum_be4 (x : Nat) (hx : x < 4294967296) : beNum (be4 x) = x := by
  simp [beNum, be4]
  omega
theorem frame_eq (b rest : List UInt8) : frame b ++ rest = be4 b.length ++ (be4 (crc (be4 b.length)) ++ (b ++ (be4 (crc b) ++ rest))) := by simp [frame]
theorem take_app {α : Type} (a b : List α) (n : Nat) (h : a.length = n) : (a ++ b).take n = a := by subst h; simp
theorem drop_app {α : Type} (a b : List α) (n : Nat) (h : a.length = n) : (a ++ b).drop n = b := by subst h; simp
theorem unf_frame (b rest : List UInt8) (hb : b.length ≤ 1048576) : unf (frame b ++ rest) = .ok b.length := by
  rw [frame_eq]
  have h1 : (be4 b.length ++ (be4 (crc (be4 b.length)) ++ (b ++ (be4 (crc b) ++ rest)))).take 4 = be4 b.length := take_app _ _ _ rfl
  have h2 : (be4 b.length ++ (be4 (crc (be4 b.length)) ++ (b ++ (be4 (crc b) ++ rest)))).drop 4 = be4 (crc (be4 b.length)) ++ (b ++ (be4 (crc b) ++ rest)) := drop_app _ _ _ rfl
  have h3 : (be4 b.length ++ (be4 (crc (be4 b.length)) ++ (b ++ (be4 (crc b) ++ rest)))).drop 8 = b ++ (be4 (crc b) ++ rest) := by
    rw [← List.append_assoc]
    exact drop_app _ _ _ rfl
  have h4 : (be4 b.length ++ (be4 (crc (be4 b.length)) ++ (b ++ (be4 (crc b) ++ rest)))).drop (8 + b.length) = be4 (crc b) ++ rest := by
    rw [← List.drop_drop, h3]
    exact drop_app _ _ _ rfl
  have hl : (be4 b.length ++ (be4 (crc (be4 b.length)) ++ (b ++ (be4 (crc b) ++ rest)))).length = 12 + b.length + rest.length := by simp [be4_len]; omega
  unfold unf
  rw [hl, if_neg (by omega), h1, h2, take_app _ _ 4 rfl, beNum_be4 _ (crc_lt _), if_neg (by simp), beNum_be4 _ (by omega), if_neg (by omega), if_neg (by omega), h3, take_app b _ _ rfl, h4, take_app _ _ 4 rfl, beNum_be4 _ (crc_lt _), if_neg (by simp)]
theorem frame_body (b rest : List UInt8) : ((frame b ++ rest).drop 8).take b.length = b := by
  rw [frame_eq, ← List.append_assoc, drop_app _ _ 8 rfl, take_app b _ _ rfl]
theorem frame_drop (b rest : List UInt8) : (frame b ++ rest).drop (b.length + 12) = rest := drop_app _ _ _ (frame_len b)
theorem frame_ne (b rest : List UInt8) : frame b ++ rest ≠ [] := by
  intro h
  have := congrArg List.length h
  rw [List.length_append, frame_len] at this
  simp at this
/-- lists of records that fit into a frame -/
def Fits (rs : List (List UInt8)) : Prop := (body rs).length ≤ 1048576
theorem Fits.lens {rs : List (List UInt8)} (h : Fits rs) : rs.length ≤ 1048576 ∧ ∀ r ∈ rs, r.length ≤ 1048576 := by
  have hbl : (body rs).length = (encNum rs.length).length + (encRecs rs).length := by simp [body]
  unfold Fits at h
  refine ⟨by have := recs_le rs; omega, fun r hr => ?_⟩
  obtain ⟨i, hi, rfl⟩ := List.getElem_of_mem hr
  have := rec_le rs i hi
  omega
theorem scan_frame (rs : List (List UInt8)) (rest : List UInt8) (h : Fits rs) : scan (frame (body rs) ++ rest) = (scan rest).map fun x => (rs ++ x.1, (frame (body rs)).length + x.2) := by
  have hl := h.lens
  rw [scan_ok (frame_ne _ _) (unf_frame _ _ h) (rs := rs) (by rw [frame_body]; exact listM_body rs (by omega) hl.2), frame_drop, frame_len]
theorem scan_short (b : List UInt8) (hb : b.length ≤ 1048576) (c : Nat) (hc : c < (frame b).length) : scan ((frame b).take c) = some ([], 0) := by
  by_cases h0 : (frame b).take c = []
  · rw [h0, scan_nil]
  · have hfl := frame_len b
    have hcl : ((frame b).take c).length = c := by simp; omega
    have hu : unf ((frame b).take c) = .no 2 := by
      unfold unf
      rw [hcl]
      by_cases h8 : c < 8
      · rw [if_pos h8]
      · rw [if_neg h8]
        have e : frame b = be4 b.length ++ (be4 (crc (be4 b.length)) ++ (b ++ (be4 (crc b) ++ []))) := by simpa using frame_eq b []
        have h1 : ((frame b).take c).take 4 = be4 b.length := by rw [List.take_take, Nat.min_eq_left (by omega), e]; exact take_app _ _ _ rfl
        have h2 : (((frame b).take c).drop 4).take 4 = be4 (crc (be4 b.length)) := by
          rw [List.drop_take, List.take_take, Nat.min_eq_left (by omega), e, drop_app _ _ 4 rfl]
          exact take_app _ _ _ rfl
        rw [h1, h2, beNum_be4 _ (crc_lt _), if_neg (by simp), beNum_be4 _ (by omega), if_neg (by omega), if_pos (by omega)]
    rw [scan_no h0 hu, if_pos rfl]

/-- a file of appended lists -/
def fileOf (ls : List (List (List UInt8))) : List UInt8 := ls.flatMap fun l => if l = [] then [] else frame (body l)
theorem scan_file (ls : List (List (List UInt8))) (rest : List UInt8) (h : ∀ l ∈ ls, Fits l) : scan (fileOf ls ++ rest) = (scan rest).map fun x => (ls.flatten ++ x.1, (fileOf ls).length + x.2) := by
  induction ls with
  | nil => simp [fileOf]
  | cons l ls ih =>
    have ih' := ih (fun l hl => h l (by simp [hl]))
    by_cases hl : l = []
    · subst hl
      have e : fileOf ([] :: ls) = fileOf ls := by simp [fileOf]
      rw [e, ih']
      simp
    · have e : fileOf (l :: ls) = frame (body l) ++ fileOf ls := by simp [fileOf, hl]
      rw [e, List.append_assoc, scan_frame l _ (h l (by simp)), ih', Option.map_map]
      congr 1
      funext x
      simp
      omega
theorem scan_whole (ls : List (List (List UInt8))) (h : ∀ l ∈ ls, Fits l) : scan (fileOf ls) = some (ls.flatten, (fileOf ls).length) := by
  have := scan_file ls [] h
  rw [List.append_nil, scan_nil] at this
  simpa using this
theorem fileOf_append (ls ms : List (List (List UInt8))) : fileOf (ls ++ ms) = fileOf ls ++ fileOf ms := by simp [fileOf]
theorem fileOf_one (l : List (List UInt8)) (h : l ≠ []) : fileOf [l] = frame (body l) := by simp [fileOf, h]
end Go.Proofs.YtpnlcogbahjnoaaGreat.F
