/- RecordKnown answers true, walked. Conditions: none. -/
import Derived.Test.YtpnlcogbahjnoaaAwake13
import Derived.Test.YtpnlcogbahjnoaaSpoil
namespace Go.Proofs.Ytpnlcogbahjnoaa.F
open Go.RowKit Go.Proofs.Ytpnlcogbahjnoaa.M
set_option linter.unusedVariables false

def kA : List (List UInt8) := [[97]]
def kB : List (List UInt8) := [[98], []]
theorem kA_small : Small kA := ⟨by decide, by decide⟩
theorem kB_small : Small kB := ⟨by decide, by decide⟩
theorem kA_len : (frame (body kA)).length = 15 := by
  rw [frame_len]
  simp [kA, body, encRecs, encNum_small]
theorem kB_len : (frame (body kB)).length = 16 := by
  rw [frame_len]
  simp [kB, body, encRecs, encNum_small]
theorem k_file : fileOf [kA, kB] = frame (body kA) ++ frame (body kB) := by simp [fileOf, kA, kB]
theorem k_len : (fileOf [kA, kB]).length = 31 := by rw [k_file, List.length_append, kA_len, kB_len]
theorem k_take : (fileOf [kA, kB]).take 30 = frame (body kA) ++ (frame (body kB)).take 15 := by
  rw [k_file, List.take_append, kA_len, List.take_of_length_le (by rw [kA_len]; omega)]
theorem k_scan : scan ((fileOf [kA, kB]).take 30) = some (kA, 15) := by
  rw [k_take, scan_frame kA _ kA_small.fits, scan_short _ kB_small.fits 15 (by rw [kB_len]; omega), kA_len]
  simp
theorem k_take2 : ((fileOf [kA, kB]).take 30).take 15 = frame (body kA) := by
  rw [k_take, take_app _ _ 15 kA_len]
theorem k_one : fileOf [kA] = frame (body kA) := by simp [fileOf, kA]
theorem k_flip : scan (flipAt (frame (body kA)) 72) = none := by
  rw [← k_one]
  exact scan_flip [kA] (fun l hl => (List.mem_singleton.1 hl) ▸ kA_small.fits) 72 (by rw [k_one, kA_len]; omega)

set_option maxRecDepth 100000 in
set_option maxHeartbeats 2000000 in
theorem known13_yes (W : World) :
    Calls Try.prog 4 #[] W fun e w' => e = .returned (.bool true) ∧ Below W.heap.size W w' := by
  have hcv := fun (w : World) (C : Array Value) (n c : Nat) => Lib.run_convert_bytes_const (P := Try.prog) w 22 5 C n c Try.underlying22 Try.underlying5
  go_enter Try.func4, Try.ntmps4
  go_wp2_with fail
  refine (awake13_yes W).mono ?_
  rintro e w0 ⟨rfl, hb0⟩
  have B0 := Lib.hid hb0
  clear hb0
  go_wp2_with fail
  refine (new_any w0).mono ?_
  rintro e w1 ⟨f, b, rfl, hf0, hb0, h1, hb1⟩
  have H1 := Lib.hid h1
  have B1 := Lib.hid (B0.out.trans (hb1.mono B0.out.size))
  have hf0 : W.heap.size ≤ f := Nat.le_trans B0.out.size hf0
  have hb0 : W.heap.size ≤ b := Nat.le_trans B0.out.size hb0
  clear h1 hb1
  go_wp2_with fail
  refine (lj_create B1.out hf0 hb0 H1.out).mono ?_
  rintro e w2 ⟨p, rfl, h2⟩
  have H2 := Lib.hid h2
  clear h2
  go_wp2_with fail
  refine (lj_lit1 H2.out (by simp) 97 97 rfl _ rfl).mono ?_
  rintro e w3 ⟨rfl, h3⟩
  have H3 := Lib.hid h3
  clear h3
  go_wp2_with fail
  refine (lj_lit2 H3.out (by simp) 98 98 rfl _ rfl).mono ?_
  rintro e w4 ⟨rfl, h4⟩
  have h4' : LJ W w4 f b p [kA, kB] := h4
  obtain ⟨m, st, hF4, hm4, hst0, hst1⟩ := h4'.disk
  rw [k_len] at hF4
  simp at hm4 hst1
  have HF4 := Lib.hid hF4
  have B4 := Lib.hid h4'.low
  clear h4 h4' hF4
  go_wp2_with fail
  refine (read1 w4 f b m st (-1) false [114] (fileOf [kA, kB]) 31 HF4.out (by rw [k_len]; omega) ⟨#[114]⟩ rfl (by decide)).mono ?_
  rintro e w5 ⟨v5, rfl, h5, hb5⟩
  obtain ⟨a5, k5, hv5, -, -⟩ := h5.reads.shape
  rw [k_len] at hv5
  subst hv5
  have HF5 := Lib.hid (HF4.out.below hb5)
  have B5 := Lib.hid (B4.out.trans (hb5.mono B4.out.size))
  clear h5 hb5
  go_wp2_with fail
  refine (trunc_f w5 f b m st [114] (fileOf [kA, kB]) 31 HF5.out ⟨#[114]⟩ rfl rfl 30 (by rw [k_len]; omega) (by rw [k_len]; omega) (by omega) hst0 (by omega)).mono ?_
  rintro e w6 ⟨rfl, h6, f6⟩
  have HF6 := Lib.hid h6
  have B6 := Lib.hid (B5.out.trans (f6.below B5.out.size (by rintro k (rfl | rfl) <;> assumption)))
  clear h6 f6
  go_wp2_with fail
  refine (open_cut w6 f b _ _ [114] _ _ HF6.out ⟨#[114]⟩ rfl rfl (by simp [k_len]) (by omega) (by omega) (by omega) kA 15 k_scan (by simp [k_len])).mono ?_
  rintro e w7 ⟨p7, rfl, hl7, h7, f7⟩
  rw [k_take2] at h7
  have HF7 := Lib.hid h7
  have HL7 := Lib.hid hl7
  have B7 := Lib.hid (B6.out.trans (f7.below B6.out.size (by rintro k (rfl | rfl) <;> assumption)))
  clear h7 hl7 f7
  go_wp2_with fail
  refine (flip_any w7 f b _ _ _ _ [114] _ _ HF7.out ⟨#[114]⟩ rfl (by decide) 72 (by rw [kA_len]; omega) (by rw [kA_len]; omega) (by omega)).mono ?_
  rintro e w8 ⟨rfl, h8, f8⟩
  have HF8 := Lib.hid h8
  have HL8 := Lib.hid (HL7.out.disk HF7.out (f8.mono (fun _ _ h => .inr h)))
  have B8 := Lib.hid (B7.out.trans (f8.below B7.out.size (by rintro k rfl; assumption)))
  clear h8 f8
  have hfl8 : (flipAt (frame (body kA)) 72).length = 15 := by rw [flipAt, List.length_set, kA_len]
  go_wp2_with fail
  refine (open_spoilt w8 f b _ _ [114] _ _ HF8.out ⟨#[114]⟩ rfl rfl (by omega) (by omega) (by omega) (by omega) k_flip).mono ?_
  rintro e w9 ⟨rfl, hb9⟩
  have HF9 := Lib.hid (HF8.out.below hb9)
  have HL9 := Lib.hid (HL8.out.below hb9)
  have B9 := Lib.hid (B8.out.trans (hb9.mono B8.out.size))
  clear hb9
  go_wp2_with fail
  refine (open_none w9 f b _ _ _ _ HF9.out ⟨#[120]⟩ (by decide) rfl).mono ?_
  rintro e w10 ⟨rfl, hb10⟩
  have HL10 := Lib.hid (HL9.out.below hb10)
  have B10 := Lib.hid (B9.out.trans (hb10.mono B9.out.size))
  clear hb10
  go_wp2_with fail
  refine (open_nil w10 ⟨#[120]⟩).mono ?_
  rintro e w10' ⟨rfl, rfl⟩
  go_wp2_with fail
  refine (len_any _ _ p7 f _ _ HL10.out).mono ?_
  rintro e w11 ⟨rfl, rfl⟩
  go_wp2_with fail
  go_ret
  exact ⟨rfl, B10.out⟩
end Go.Proofs.Ytpnlcogbahjnoaa.F
