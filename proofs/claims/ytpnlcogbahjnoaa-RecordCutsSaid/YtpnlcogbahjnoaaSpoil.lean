/- One bit that is turned in a file of frames is found. No program in sight. -/
import Derived.Test.YtpnlcogbahjnoaaPure
import Derived.Test.YtpnlcogbahjnoaaFlip
namespace Go.Proofs.Ytpnlcogbahjnoaa.F
open Go.RowKit Go.Proofs.Ytpnlcogbahjnoaa.M
set_option linter.unusedVariables false

theorem foldl_set_ne {β : Type} (g : β → UInt8 → β) (I : β → Prop) (hI : ∀ x c, I x → I (g x c)) (j1 : ∀ x y c, I x → I y → g x c = g y c → x = y) (j2 : ∀ x c c', I x → g x c = g x c' → c = c') :
    ∀ (l : List UInt8) (x : β) (i : Nat) (c' : UInt8) (hi : i < l.length), I x → c' ≠ l[i] → (l.set i c').foldl g x ≠ l.foldl g x := by
  have same : ∀ (l : List UInt8) (x y : β), I x → I y → l.foldl g x = l.foldl g y → x = y := by
    intro l
    induction l with
    | nil => intro x y _ _ h; exact h
    | cons c l ih => intro x y hx hy h; exact j1 x y c hx hy (ih _ _ (hI x c hx) (hI y c hy) h)
  intro l
  induction l with
  | nil => intro x i c' hi; simp at hi
  | cons c l ih =>
    intro x i c' hi hx hne h
    cases i with
    | zero =>
      simp only [List.set_cons_zero, List.foldl_cons] at h
      exact hne (j2 x c' c hx (same l _ _ (hI x c' hx) (hI x c hx) h))
    | succ i =>
      simp only [List.set_cons_succ, List.foldl_cons] at h
      exact ih (g x c) i c' (by simpa using hi) (hI x c hx) (by simpa using hne) h

theorem xor_cancel {a b p : Nat} (h : a ^^^ p = b ^^^ p) : a = b := by
  have := congrArg (· ^^^ p) h
  simp only [Nat.xor_assoc, Nat.xor_self, Nat.xor_zero] at this
  exact this
theorem odd_even {x y : Nat} (hx : x < 4294967296) (hy : y < 4294967296) : (x / 2) ^^^ 3988292384 ≠ y / 2 := by
  intro h
  have h1 := congrArg (fun n => Nat.testBit n 31) h
  simp only [Nat.testBit_xor] at h1
  have h2 : Nat.testBit (x / 2) 31 = false := Nat.testBit_lt_two_pow (by omega)
  have h3 : Nat.testBit (y / 2) 31 = false := Nat.testBit_lt_two_pow (by omega)
  have h4 : Nat.testBit 3988292384 31 = true := by decide
  rw [h2, h3, h4] at h1
  cases h1
theorem cstep_inj {x y : Nat} (hx : x < 4294967296) (hy : y < 4294967296) (h : cstep x = cstep y) : x = y := by
  unfold cstep at h
  split at h
  · split at h
    · have := xor_cancel h
      omega
    · exact (odd_even hx hy h).elim
  · split at h
    · exact (odd_even hy hx h.symm).elim
    · omega
theorem cstepN_inj {x y : Nat} (hx : x < 4294967296) (hy : y < 4294967296) : ∀ n, cstepN n x = cstepN n y → x = y
  | 0, h => h
  | n + 1, h => cstepN_inj hx hy n (cstep_inj (cstepN_lt hx n) (cstepN_lt hy n) h)
theorem crc_set (l : List UInt8) (i : Nat) (c' : UInt8) (hi : i < l.length) (hne : c' ≠ l[i]) : crc (l.set i c') ≠ crc l := by
  intro h
  unfold crc at h
  rw [Nat.xor_comm, Nat.xor_comm 4294967295] at h
  refine foldl_set_ne crcAdd (fun x => x < 4294967296) (fun x c hx => crcAdd_lt hx c) (fun x y c hx hy h => ?_) (fun x c c' hx h => ?_) l 4294967295 i c' hi (by decide) hne (xor_cancel h)
  · exact xor_cancel (cstepN_inj (xor_lt hx (u8_lt c)) (xor_lt hy (u8_lt c)) 8 h)
  · have := cstepN_inj (xor_lt hx (u8_lt c)) (xor_lt hx (u8_lt c')) 8 h
    rw [Nat.xor_comm, Nat.xor_comm x] at this
    exact UInt8.toNat_inj.1 (xor_cancel this)
theorem beNum_set (l : List UInt8) (i : Nat) (c' : UInt8) (hi : i < l.length) (hne : c' ≠ l[i]) : beNum (l.set i c') ≠ beNum l := by
  refine foldl_set_ne (fun x c => x * 256 + c.toNat) (fun _ => True) (fun _ _ _ => trivial) (fun x y c _ _ h => by omega) (fun x c c' _ h => ?_) l 0 i c' hi trivial hne
  exact UInt8.toNat_inj.1 (by simpa using h)
theorem flipB_ne (c : UInt8) (i : Nat) (hi : i < 8) : flipB c i ≠ c := by
  have h : ∀ (c : Fin 256) (i : Fin 8), c.val ^^^ 2 ^ i.val ≠ c.val ∧ c.val ^^^ 2 ^ i.val < 256 := by decide +kernel
  obtain ⟨h1, h2⟩ := h ⟨c.toNat, c.toNat_lt⟩ ⟨i, hi⟩
  simp only at h1 h2
  intro e
  have := congrArg UInt8.toNat e
  rw [flipB, UInt8.toNat_ofNat', Nat.mod_eq_of_lt h2] at this
  exact h1 this

/-- a frame with one byte turned is none -/
theorem unf_set (b rest : List UInt8) (hb : b.length ≤ 1048576) (i : Nat) (hi : i < (frame b).length) (c' : UInt8) (hne : c' ≠ (frame b)[i]) : unf ((frame b).set i c' ++ rest) = .no 5 := by
  have hfl := frame_len b
  have e0 : (frame b).set i c' ++ rest = (frame b ++ rest).set i c' := by rw [List.set_append_left _ _ hi]
  have hz : (frame b ++ rest)[i]? = some (frame b)[i] := by rw [List.getElem?_append_left hi, List.getElem?_eq_getElem hi]
  rw [e0]
  clear e0
  generalize (frame b)[i] = d at *
  have h1 : (frame b ++ rest).take 4 = be4 b.length := by rw [frame_eq]; exact take_app _ _ _ rfl
  have h2 : ((frame b ++ rest).drop 4).take 4 = be4 (crc (be4 b.length)) := by rw [frame_eq, drop_app _ _ 4 rfl]; exact take_app _ _ _ rfl
  have h3 : ((frame b ++ rest).drop 8).take b.length = b := frame_body b rest
  have h4 : ((frame b ++ rest).drop (8 + b.length)).take 4 = be4 (crc b) := by
    rw [frame_eq, ← List.append_assoc, ← List.append_assoc, drop_app (be4 b.length ++ be4 (crc (be4 b.length)) ++ b) _ (8 + b.length) (by simp [be4_len]; omega)]
    exact take_app _ _ _ rfl
  have hl : (frame b ++ rest).length = 12 + b.length + rest.length := by rw [List.length_append, hfl]; omega
  generalize frame b ++ rest = z at *
  have hiz : i < z.length := by omega
  unfold unf
  rw [List.length_set, hl, if_neg (by omega)]
  -- what lies behind the turned byte, or ahead of it, is as it was
  have sub : ∀ (a n : Nat) (t : List UInt8), (z.drop a).take n = t → (i < a ∨ a + n ≤ i) → ((z.set i c').drop a).take n = t := by
    intro a n t ht hh
    rw [List.drop_set]
    split
    · exact ht
    · rw [List.take_set, ht]
      refine List.set_eq_of_length_le ?_
      rw [← ht]
      simp
      omega
  have sub' : ∀ (a n : Nat) (t : List UInt8), (z.drop a).take n = t → a ≤ i → i < a + n → ∃ h : i - a < t.length, ((z.set i c').drop a).take n = t.set (i - a) c' ∧ c' ≠ t[i - a] := by
    intro a n t ht h1 h2
    have hlt : i - a < t.length := by rw [← ht]; simp; omega
    refine ⟨hlt, ?_, ?_⟩
    · rw [List.drop_set, if_neg (by omega), List.take_set, ht]
    · have : t[i - a]? = some d := by
        rw [← ht, List.getElem?_take, if_pos (by omega), List.getElem?_drop, show a + (i - a) = i by omega]
        exact hz
      rw [List.getElem?_eq_getElem hlt, Option.some.injEq] at this
      rw [this]
      exact hne
  have h1' : (z.drop 0).take 4 = be4 b.length := by simpa using h1
  by_cases hi4 : i < 4
  · obtain ⟨hlt, e1, n1⟩ := sub' 0 4 _ h1' (Nat.zero_le _) (by omega)
    have e2 := sub 4 4 _ h2 (.inl hi4)
    simp only [List.drop_zero] at e1
    rw [e1, e2, beNum_be4 _ (crc_lt _), if_pos (crc_set _ _ _ hlt n1)]
  · have e1 := sub 0 4 _ h1' (.inr (by omega))
    simp only [List.drop_zero] at e1
    by_cases hi8 : i < 8
    · obtain ⟨hlt, e2, n2⟩ := sub' 4 4 _ h2 (by omega) (by omega)
      have := beNum_set _ _ _ hlt n2
      rw [beNum_be4 _ (crc_lt _)] at this
      rw [e1, e2, if_pos (fun h => this h.symm)]
    · have e2 := sub 4 4 _ h2 (.inr (by omega))
      rw [e1, e2, beNum_be4 _ (crc_lt _), if_neg (by simp), beNum_be4 _ (by omega), if_neg (by omega), if_neg (by omega)]
      by_cases hib : i < 8 + b.length
      · obtain ⟨hlt, e3, n3⟩ := sub' 8 b.length _ h3 (by omega) hib
        have e4 := sub (8 + b.length) 4 _ h4 (.inl hib)
        rw [e3, e4, beNum_be4 _ (crc_lt _), if_pos (crc_set _ _ _ hlt n3)]
      · have e3 := sub 8 b.length _ h3 (.inr (by omega))
        obtain ⟨hlt, e4, n4⟩ := sub' (8 + b.length) 4 _ h4 (by omega) (by omega)
        have := beNum_set _ _ _ hlt n4
        rw [beNum_be4 _ (crc_lt _)] at this
        rw [e3, e4, if_pos (fun h => this h.symm)]
theorem scan_flip (ls : List (List (List UInt8))) (h : ∀ l ∈ ls, Fits l) (n : Nat) (hn : n < 8 * (fileOf ls).length) : scan (flipAt (fileOf ls) n) = none := by
  induction ls generalizing n with
  | nil => simp [fileOf] at hn
  | cons l ls ih =>
    by_cases hl : l = []
    · subst hl
      have e : fileOf ([] :: ls) = fileOf ls := by simp [fileOf]
      rw [e] at hn ⊢
      exact ih (fun l hl => h l (by simp [hl])) n hn
    · have e : fileOf (l :: ls) = frame (body l) ++ fileOf ls := by simp [fileOf, hl]
      rw [e] at hn ⊢
      have hfit := h l (by simp)
      by_cases hi : n / 8 < (frame (body l)).length
      · have hg : (frame (body l) ++ fileOf ls).getD (n / 8) 0 = (frame (body l))[n / 8] := by
          rw [List.getD_eq_getElem?_getD, List.getElem?_append_left hi, List.getElem?_eq_getElem hi]
          rfl
        rw [flipAt, hg, List.set_append_left _ _ hi]
        have hne := flipB_ne ((frame (body l))[n / 8]) (n % 8) (by omega)
        have hu := unf_set (body l) (fileOf ls) hfit (n / 8) hi _ hne
        rw [scan_no (by intro hh; have := congrArg List.length hh; simp at this; rw [this.1] at hi; simp at hi) hu]
        rfl
      · have hlen : n / 8 - (frame (body l)).length = (n - 8 * (frame (body l)).length) / 8 := by omega
        have hm : n % 8 = (n - 8 * (frame (body l)).length) % 8 := by omega
        have e2 : flipAt (frame (body l) ++ fileOf ls) n = frame (body l) ++ flipAt (fileOf ls) (n - 8 * (frame (body l)).length) := by
          rw [flipAt, flipAt, List.set_append_right _ _ (by omega), hlen, hm]
          congr 3
          rw [List.getD_eq_getElem?_getD, List.getD_eq_getElem?_getD, List.getElem?_append_right (by omega), hlen]
        rw [e2, scan_frame l _ hfit, ih (fun l hl => h l (by simp [hl])) _ (by simp at hn; omega)]
        rfl
end Go.Proofs.Ytpnlcogbahjnoaa.F
