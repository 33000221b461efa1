/- The reference's Reader: bytes, end. Conditions stand at each theorem. -/
import Derived.Test.YtpnlcogbahjnoaaGreatQReader
namespace Go.Proofs.YtpnlcogbahjnoaaGreat.F
open Go.RowKit Go.Proofs.YtpnlcogbahjnoaaGreat.M
set_option linter.unusedVariables false

def QBytesOut (w' : World) (p : Nat) (e : Ending) : Except Int (List UInt8 × List UInt8) → Prop
  | .ok (r, l) => ∃ v, e = .returned v ∧ OB w' v r ∧ QRdAt w' p l 0
  | .error c => e = .returned (.slice none 0 0) ∧ QRdAt w' p [] c
theorem qbytes_out {w' : World} {p : Nat} {e : Ending} {most : Nat} {bs : List UInt8} {X : Except Int (List UInt8 × List UInt8)} (h : decB most bs = X) (h' : QBytesOut w' p e X) : QBytesOut w' p e (decB most bs) := h ▸ h'

set_option maxRecDepth 100000 in
set_option maxHeartbeats 1000000 in
theorem qtake_any (w : World) (p : Nat) (bs : List UInt8) (h : QRdAt w p bs 0) (hl : bs.length ≤ 1099511627776) (most : Nat) (hmost : most ≤ 1099511627776) :
    Calls Tryz.prog 101 #[.pointer (some ⟨p, 0, none⟩), .int .i64 most] w fun e w' => QBytesOut w' p e (decB most bs) ∧ Fr (fun k => k = p) w w' := by
  have HR := Lib.hid h
  have hp := h.lt
  clear h
  go_enter Tryz.func101, Tryz.ntmps101
  go_wp2_with fail
  refine (qnum_any w p bs HR.out).mono ?_
  rintro e w1 ⟨hn, hf1⟩
  have HF1 := Lib.hid hf1
  clear hf1
  cases hd : dec bs with
  | error c =>
    rw [hd] at hn
    obtain ⟨rfl, hr⟩ := hn
    have hfl := hr.fail
    have hcz := dec_err hd
    have HR1 := Lib.hid hr
    have hD : Hid (decB most bs = .error c) := Lib.hid (by rw [decB, hd])
    clear hr hd
    go_wp2_with fail
    go_ret
    exact ⟨qbytes_out hD.out ⟨rfl, HR1.out⟩, HF1.out⟩
  | ok x =>
    obtain ⟨n, l⟩ := x
    rw [hd] at hn
    obtain ⟨rfl, hr⟩ := hn
    have hdk := dec_ok hd
    have hfl := hr.fail
    have HR1 := Lib.hid hr
    by_cases hlong : n ≤ most
    case neg =>
      have hD : Hid (decB most bs = .error 3) := Lib.hid (by rw [decB, hd]; simp only; rw [if_neg hlong])
      clear hr hd
      go_wp2_with fail
      refine (qstop_any w1 p l HR1.out 3).mono ?_
      rintro e w2 ⟨rfl, hr2, hf2⟩
      have hfl2 := hr2.fail
      have HR2 := Lib.hid hr2
      have HF2 := Lib.hid (HF1.out.trans hf2 (fun _ _ h => h))
      clear hr2 hf2
      go_wp2_with fail
      go_ret
      exact ⟨qbytes_out hD.out ⟨rfl, HR2.out⟩, HF2.out⟩
    case pos =>
      obtain ⟨sv, z, ho⟩ := hr
      obtain ⟨a, cap, rfl, hcap, hm⟩ := ho.1.shape
      have c0 := cell_at z 0
      have f0 := free_at z 0
      simp at c0
      have HZ := Lib.hid z
      have HO := Lib.hid ho
      clear z ho
      by_cases hshort : n ≤ l.length
      case neg =>
        have hD : Hid (decB most bs = .error 2) := Lib.hid (by rw [decB, hd]; simp only; rw [if_pos hlong, if_neg hshort])
        clear hd
        go_wp2_with fail
        refine (qstop_any w1 p l HR1.out 2).mono ?_
        rintro e w2 ⟨rfl, hr2, hf2⟩
        have hfl2 := hr2.fail
        have HR2 := Lib.hid hr2
        have HF2 := Lib.hid (HF1.out.trans hf2 (fun _ _ h => h))
        clear hr2 hf2
        go_wp2_with fail
        go_ret
        exact ⟨qbytes_out hD.out ⟨rfl, HR2.out⟩, HF2.out⟩
      case pos =>
        have hD : Hid (decB most bs = .ok (l.take n, l.drop n)) := Lib.hid (by rw [decB, hd]; simp only; rw [if_pos hlong, if_pos hshort])
        clear hd
        go_wp2_with fail
        refine (copy_any w1 _ (l.take n) (bytes_upto HO.out.1 n hshort) (by simp; omega)).mono ?_
        rintro e w2 ⟨v2, rfl, ho2, hb2⟩
        have hln : (l.take n).length = n := by simp; omega
        rw [hln] at ho2
        obtain ⟨a2, k2, rfl, -, -⟩ := ho2.reads.shape
        clear hln
        have hp1 : p < w1.heap.size := Nat.lt_of_lt_of_le hp HF1.out.size
        have z2 := (hb2.block p hp1).trans HZ.out
        have c2 := cell_at z2 0
        have f2 := free_at z2 0
        simp at c2
        have HZ2 := Lib.hid z2
        have HO2 := Lib.hid (HO.out.below hb2)
        have HV2 := Lib.hid (OB.of_owns ho2)
        have HF2 := Lib.hid (HF1.out.trans (Fr.of_below (S := fun k => k = p) hb2) (fun _ _ h => h))
        clear z2 ho2 hb2
        by_cases hcn : cap = n
        · subst hcn
          go_wp2_with fail
          go_ret
          have hd := qrd_put HZ2.out (sv2 := .slice a 0 0) (ob_none HO2.out cap (by omega))
          exact ⟨qbytes_out hD.out ⟨_, rfl, HV2.out.fr hd.2 (by rintro g rfl; exact Tag.not HZ2.out (by decide)), hd.1⟩, HF2.out.trans hd.2 (fun _ _ h => h)⟩
        · go_wp2_with fail
          go_ret
          have hd := qrd_put HZ2.out (ob_rest HO2.out n (l.length - n) (by omega))
          exact ⟨qbytes_out hD.out ⟨_, rfl, HV2.out.fr hd.2 (by rintro g rfl; exact Tag.not HZ2.out (by decide)), hd.1⟩, HF2.out.trans hd.2 (fun _ _ h => h)⟩

set_option maxRecDepth 100000 in
set_option maxHeartbeats 1000000 in
theorem qbytes_any (w : World) (p : Nat) (bs : List UInt8) (h : QRdAt w p bs 0) (hl : bs.length ≤ 1099511627776) (most : Nat) (hmost : most ≤ 1099511627776) :
    Calls Tryz.prog 89 #[.pointer (some ⟨p, 0, none⟩), .int .i64 most] w fun e w' => QBytesOut w' p e (decB most bs) ∧ Fr (fun k => k = p) w w' := by
  have HR := Lib.hid h
  clear h
  go_enter Tryz.func89, Tryz.ntmps89
  go_wp2_with fail
  refine (qtake_any w p bs HR.out hl most hmost).mono ?_
  rintro e w1 ⟨h1, h2⟩
  have H2 := Lib.hid h2
  cases hd : decB most bs with
  | error c =>
    rw [hd] at h1
    obtain ⟨rfl, h3⟩ := h1
    have H3 := Lib.hid h3
    clear h3 h2
    go_wp2_with fail
    go_ret
    exact ⟨qbytes_out hd ⟨rfl, H3.out⟩, H2.out⟩
  | ok x =>
    obtain ⟨r, l⟩ := x
    rw [hd] at h1
    obtain ⟨v, rfl, h3, h4⟩ := h1
    obtain ⟨a2, k2, rfl, -, -⟩ := h3.1.shape
    have H3 := Lib.hid h3
    have H4 := Lib.hid h4
    clear h3 h2 h4
    go_wp2_with fail
    go_ret
    exact ⟨qbytes_out hd ⟨_, rfl, H3.out, H4.out⟩, H2.out⟩

set_option maxHeartbeats 400000 in
theorem qend_any (w : World) (p : Nat) (bs : List UInt8) (f : Int) (h : QRdAt w p bs f) :
    Calls Tryz.prog 90 #[.pointer (some ⟨p, 0, none⟩)] w fun e w' => e = .returned (.int .i64 (if f ≠ 0 then f else if 0 < bs.length then 3 else 0)) ∧ w' = w := by
  have hfl := h.fail
  obtain ⟨sv, z, ho⟩ := h
  obtain ⟨a, cap, rfl, hcap, hm⟩ := ho.1.shape
  have c0 := cell_at z 0
  simp at c0
  clear z ho
  by_cases hf : f = 0
  · subst hf
    rw [if_neg (by simp)]
    by_cases hl : 0 < bs.length
    · rw [if_pos hl]
      go_enter Tryz.func90, Tryz.ntmps90
      go_wp2_with fail
      go_ret
      exact ⟨rfl, rfl⟩
    · rw [if_neg hl]
      go_enter Tryz.func90, Tryz.ntmps90
      go_wp2_with fail
      go_ret
      exact ⟨rfl, rfl⟩
  · rw [if_pos hf]
    go_enter Tryz.func90, Tryz.ntmps90
    go_wp2_with fail
    go_ret
    exact ⟨rfl, rfl⟩
end Go.Proofs.YtpnlcogbahjnoaaGreat.F
