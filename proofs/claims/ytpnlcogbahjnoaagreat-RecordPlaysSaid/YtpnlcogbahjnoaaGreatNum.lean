/- codec's Reader: a number. Conditions stand at each theorem. -/
import Derived.Test.YtpnlcogbahjnoaaGreatReader
namespace Go.Proofs.YtpnlcogbahjnoaaGreat.F
open Go.RowKit Go.Proofs.YtpnlcogbahjnoaaGreat.M
set_option linter.unusedVariables false

/-- a number's digits, from digit i on; the errno where they are none -/
def decGo : Nat → Nat → Nat → List UInt8 → Except Int (Nat × List UInt8)
  | 0, _, _, _ => .error 4
  | _ + 1, _, _, [] => .error 2
  | f + 1, i, acc, c :: l =>
    if c.toNat < 128 then
      if (0 < c.toNat ∨ i = 0) ∧ acc + c.toNat % 128 * 2 ^ (7 * i) ≤ 1099511627776 then .ok (acc + c.toNat % 128 * 2 ^ (7 * i), l) else .error 4
    else decGo f (i + 1) (acc + c.toNat % 128 * 2 ^ (7 * i)) l
def dec (bs : List UInt8) : Except Int (Nat × List UInt8) := decGo 6 0 0 bs
def NumOut (w w' : World) (p : Nat) (e : Ending) : Except Int (Nat × List UInt8) → Prop
  | .ok (n, l) => e = .returned (.int .i64 n) ∧ RdAt w' p l 0
  | .error c => e = .panicked (Pan c) ∧ ∃ l, RdAt w' p l 0

theorem shl_or (i acc c : Nat) (hi : i < 6) (ha : acc < 2 ^ (7 * i)) (hc : c < 256) :
    bits .or .i64 (acc : Int) (((c % 128 : Nat) : Int) * 2 ^ (7 * i)) = ((acc + c % 128 * 2 ^ (7 * i) : Nat) : Int) := by
  have e0 : ((c % 128 : Nat) : Int) * 2 ^ (7 * i) = ((c % 128 * 2 ^ (7 * i) : Nat) : Int) := by simp
  have hp : 2 ^ (7 * i) ≤ 2 ^ 35 := Nat.pow_le_pow_right (by decide) (by omega)
  have hm : c % 128 * 2 ^ (7 * i) ≤ 127 * 2 ^ 35 := Nat.mul_le_mul (by omega) hp
  rw [e0]
  show IntKind.i64.wrap (((BitVec.ofInt 64 (acc : Int) ||| BitVec.ofInt 64 ((c % 128 * 2 ^ (7 * i) : Nat) : Int)).toNat : Nat) : Int) = _
  have e : (BitVec.ofInt 64 (acc : Int) ||| BitVec.ofInt 64 ((c % 128 * 2 ^ (7 * i) : Nat) : Int)).toNat = acc + c % 128 * 2 ^ (7 * i) := by
    rw [BitVec.toNat_or, BitVec.ofInt_natCast, BitVec.ofInt_natCast, BitVec.toNat_ofNat, BitVec.toNat_ofNat, Nat.mod_eq_of_lt (by omega), Nat.mod_eq_of_lt (by omega)]
    rw [Nat.or_comm, Nat.mul_comm, Nat.add_comm]
    exact (Nat.two_pow_add_eq_or_of_lt ha _).symm
  rw [e]
  exact IntWalk.i64_in _ (by omega)
theorem and127 : ∀ x : Fin 256, bits .and .i64 (x.val : Int) 127 = ((x.val % 128 : Nat) : Int) := by decide +kernel
theorem and_127 (c : Nat) (hc : c < 256) : bits .and .i64 (c : Int) 127 = ((c % 128 : Nat) : Int) := and127 ⟨c, hc⟩

theorem num_out {w w' : World} {p : Nat} {e : Ending} {bs : List UInt8} {X : Except Int (Nat × List UInt8)} (h : dec bs = X) (h' : NumOut w w' p e X) : NumOut w w' p e (dec bs) := h ▸ h'
set_option maxRecDepth 100000 in
set_option maxHeartbeats 1000000 in
theorem num_any (w : World) (p : Nat) (bs : List UInt8) (h : RdAt w p bs 0) :
    Calls Tryz.prog 96 #[.pointer (some ⟨p, 0, none⟩)] w fun e w' => NumOut w w' p e (dec bs) ∧ Fr (fun k => k = p) w w' := by
  have HR := Lib.hid h
  clear h
  go_enter Tryz.func96, Tryz.ntmps96
  go_wp2_with fail
  go_loopg [3, 6] 6 (fun k s3 s6 wr => ∃ (i acc : Nat) (l : List UInt8), i ≤ 6 ∧ k + i = 6 ∧ s6 = .int .i64 i ∧ s3 = .int .i64 acc ∧ acc < 2 ^ (7 * i) ∧ Hid (RdAt wr p l 0) ∧ Hid (dec bs = decGo (6 - i) i acc l) ∧ Hid (Fr (fun k => k = p) w wr))
  case atStart => exact ⟨0, 0, bs, by omega, by omega, rfl, rfl, by simp, HR, Lib.hid rfl, Lib.hid (Fr.refl _ _)⟩
  case round =>
    obtain ⟨i, acc, l, hi, hk, rfl, rfl, hacc, hr, hd, hf⟩ := hrel
    by_cases hlt : i < 6
    · have e6 : 6 - i = (5 - i) + 1 := by omega
      cases l with
      | nil =>
        have hout : Hid (dec bs = .error 2) := by
          refine Lib.hid ?_
          rw [hd.out, e6]
          rfl
        go_wp2_with fail
        refine (take_no wr p [] hr.out 1 (by simp)).mono ?_
        rintro e w' ⟨rfl, rfl⟩
        go_wp2_with fail
        exact ⟨rfl, num_out hout.out ⟨rfl, _, hr.out⟩, hf.out⟩
      | cons c l =>
        have hc := c.toNat_lt
        have h127 := and_127 c.toNat (by omega)
        have hor : bits .or .i64 (acc : Int) (wrap64 (((c.toNat : Nat) : Int) % 128 * 2 ^ (7 * i))) = ((acc + c.toNat % 128 * 2 ^ (7 * i) : Nat) : Int) := by
          have hso := shl_or i acc c.toNat hlt hacc (by omega)
          have hp : (2 : Nat) ^ (7 * i) ≤ 2 ^ 35 := Nat.pow_le_pow_right (by decide) (by omega)
          have hm : c.toNat % 128 * 2 ^ (7 * i) ≤ 127 * 2 ^ 35 := Nat.mul_le_mul (by omega) hp
          have e0 : ((c.toNat : Nat) : Int) % 128 * 2 ^ (7 * i) = ((c.toNat % 128 * 2 ^ (7 * i) : Nat) : Int) := by simp
          have e2 : ((c.toNat % 128 : Nat) : Int) * 2 ^ (7 * i) = ((c.toNat % 128 * 2 ^ (7 * i) : Nat) : Int) := by simp
          rw [e2] at hso
          rw [e0]
          generalize c.toNat % 128 * 2 ^ (7 * i) = P at *
          have e1 : wrap64 ((P : Nat) : Int) = ((P : Nat) : Int) := by
            rw [← IntWalk.i64_left]
            exact IntWalk.i64_in _ (by omega)
          rw [e1]
          exact hso
        have hacc' : acc + c.toNat % 128 * 2 ^ (7 * i) < 2 ^ (7 * (i + 1)) := by
          have hm : c.toNat % 128 * 2 ^ (7 * i) ≤ 127 * 2 ^ (7 * i) := Nat.mul_le_mul_right _ (by omega)
          have e1 : (2 : Nat) ^ (7 * (i + 1)) = 128 * 2 ^ (7 * i) := by rw [Nat.mul_add, Nat.pow_add, Nat.mul_comm]
          omega
        have hdec : Hid (dec bs = if c.toNat < 128 then (if (0 < c.toNat ∨ i = 0) ∧ acc + c.toNat % 128 * 2 ^ (7 * i) ≤ 1099511627776 then .ok (acc + c.toNat % 128 * 2 ^ (7 * i), l) else .error 4) else decGo (5 - i) (i + 1) (acc + c.toNat % 128 * 2 ^ (7 * i)) l) := by
          refine Lib.hid ?_
          rw [hd.out, e6]
          rfl
        have hzero : c.toNat = 0 → acc + c.toNat % 128 * 2 ^ (7 * i) = acc := by intro h; rw [h]; simp
        have hw7 : IntKind.i64.wrap (7 * (i : Int)) = ((7 * i : Nat) : Int) := by
          rw [show (7 * (i : Int)) = ((7 * i : Nat) : Int) by omega]
          exact IntWalk.i64_in _ (by omega)
        go_wp2_with fail
        refine (take_any wr p (c :: l) hr.out 1 (by simp)).mono ?_
        rintro e w1 ⟨v1, rfl, hv1, hr1, hf1⟩
        obtain ⟨a1, k1, rfl, hk1, hk2⟩ := hv1.1.shape
        obtain ⟨g, o, hix, hcell, -⟩ := bytes_ix hv1.1 0 (by simp)
        have hix' : ∀ (k : IntKind) (w' : World), (Instr.indexAt 52 (.slice a1 1 k1) (.int k 0)).run Tryz.prog w' = .ok (.pointer (some ⟨g, o, none⟩)) w' := hix
        have hcell' : w1.cell? ⟨g, o, none⟩ = some (.int .u8 c.toNat) := hcell
        have HR1 := Lib.hid hr1
        have HF1 := Lib.hid (hf.out.trans hf1 (fun _ _ h => h))
        clear hix hcell hv1 hr1 hf1
        generalize c.toNat = cn at *
        by_cases hbig : cn < 128
        · rw [if_pos hbig] at hdec
          by_cases h0 : 0 < cn
          · generalize acc + cn % 128 * 2 ^ (7 * i) = A at *
            clear hzero
            by_cases hA : A ≤ 1099511627776
            · rw [if_pos ⟨.inl h0, hA⟩] at hdec
              go_wp2_with fail
              refine (must_yes w1 _ (by first | rfl | exact decide_eq_true (by omega)) 4).mono ?_
              rintro e w' ⟨rfl, rfl⟩
              go_wp2_with fail
              go_ret
              exact ⟨num_out hdec.out ⟨rfl, HR1.out⟩, HF1.out⟩
            · rw [if_neg (fun h => hA h.2)] at hdec
              go_wp2_with fail
              refine (must_no w1 _ (by first | rfl | exact decide_eq_false (by omega)) 4).mono ?_
              rintro e w' ⟨rfl, rfl⟩
              go_wp2_with fail
              exact ⟨rfl, num_out hdec.out ⟨rfl, _, HR1.out⟩, HF1.out⟩
          · obtain rfl : cn = 0 := by omega
            have hz := hzero rfl
            rw [hz] at hdec
            clear hor hzero hacc' hz
            by_cases hi0 : i = 0
            · subst hi0
              obtain rfl : acc = 0 := by simpa using hacc
              rw [if_pos ⟨.inr rfl, by decide⟩] at hdec
              have hb0 : wrap64 0 = 0 := by rw [← IntWalk.i64_left]; rfl
              have hb1 : bits .or .i64 0 0 = 0 := by decide
              have hb2 : bits .and .i64 0 127 = 0 := by decide
              go_wp2_with fail
              refine (must_yes w1 _ (by first | rfl | decide) 4).mono ?_
              rintro e w' ⟨rfl, rfl⟩
              go_wp2_with fail
              go_ret
              exact ⟨num_out hdec.out ⟨rfl, HR1.out⟩, HF1.out⟩
            · rw [if_neg (fun h => h.1.elim (fun h => absurd h (by decide)) hi0)] at hdec
              have hin : ¬ ((i : Int) = 0) := by omega
              go_wp2_with fail
              refine (must_no w1 _ (by first | rfl | decide) 4).mono ?_
              rintro e w' ⟨rfl, rfl⟩
              go_wp2_with fail
              exact ⟨rfl, num_out hdec.out ⟨rfl, _, HR1.out⟩, HF1.out⟩
        · rw [if_neg hbig] at hdec
          generalize acc + cn % 128 * 2 ^ (7 * i) = A at *
          clear hzero
          go_wp2_with fail
          go_roundg (6 - (i + 1))
          case measure => omega
          case rel => exact ⟨i + 1, A, l, by omega, by omega, by simp, rfl, hacc', HR1, by rw [show 6 - (i + 1) = 5 - i by omega]; exact hdec, HF1⟩
    · have hout : Hid (dec bs = .error 4) := by
        refine Lib.hid ?_
        have : 6 - i = 0 := by omega
        rw [hd.out, this]
        rfl
      go_wp2_with fail
      exact ⟨rfl, num_out hout.out ⟨rfl, _, hr.out⟩, hf.out⟩
end Go.Proofs.YtpnlcogbahjnoaaGreat.F
