/- codec.Frame and Unframe: what they compute. Conditions stand at each theorem. -/
import Derived.Test.YtpnlcogbahjnoaaGreatLay
namespace Go.Proofs.YtpnlcogbahjnoaaGreat.F
open Go.RowKit Go.Proofs.YtpnlcogbahjnoaaGreat.M
set_option linter.unusedVariables false

def frame (body : List UInt8) : List UInt8 := be4 body.length ++ be4 (crc (be4 body.length)) ++ body ++ be4 (crc body)
theorem be4_len (x : Nat) : (be4 x).length = 4 := rfl
theorem frame_len (body : List UInt8) : (frame body).length = body.length + 12 := by simp [frame, be4_len]; omega
theorem wrap_u64_u32 (n : Nat) (h : n < 4294967296) : IntKind.u64.wrap (n : Int) = n := by
  simp [IntKind.wrap, IntKind.bits, IntKind.signed]
  omega

set_option maxRecDepth 100000 in
set_option maxHeartbeats 4000000 in
theorem frame_any (w : World) (v : Value) (body : List UInt8) (hv : Bytes w v body) (hl : body.length ≤ 1048576) :
    Calls Tryz.prog 59 #[v] w fun e w' => ∃ v', e = .returned (.tuple #[v', .int .i64 0]) ∧ Owns w' w.heap.size 5 1 v' (body.length + 12) ((frame body).map M.u8) ∧ Below w.heap.size w w' := by
  obtain ⟨i, hi, hz0, hz1, hz2⟩ := info_parts infoU8
  obtain ⟨a, cap, rfl, hc, hm⟩ := hv.shape
  have HV := Lib.hid hv
  have Hi := Lib.hid hi
  have Hz0 := Lib.hid hz0
  have Hz1 := Lib.hid hz1
  have Hz2 := Lib.hid hz2
  clear hv hi hz0 hz1 hz2
  have hwl := wrap_u64_u32 body.length (by omega)
  go_enter Tryz.func59, Tryz.ntmps59
  go_wp2_with fail
  refine (lay_any w w.heap.size (Nat.le_refl _) (.slice none 0 0) [] (Owns.nil _ _ _ _) (by simp) body.length (by omega)).mono ?_
  rintro e w1 ⟨v1, rfl, ho1, hb1⟩
  simp only [List.length_nil, Nat.zero_add, List.nil_append] at ho1
  have HO1 := Lib.hid ho1
  have HB1 := Lib.hid hb1
  clear ho1 hb1
  go_wp2_with fail
  refine (crc_any w1 v1 (be4 body.length) (Bytes.of_owns HO1.out) (by simp [be4_len])).mono ?_
  rintro e w1' ⟨rfl, rfl⟩
  have hcl := crc_lt (be4 body.length)
  have hwc := wrap_u64_u32 _ hcl
  generalize hcrc : crc (be4 body.length) = c1 at *
  go_wp2_with fail
  refine (lay_any w1' w.heap.size HB1.out.size v1 (be4 body.length) HO1.out (by simp [be4_len]) c1 hcl).mono ?_
  rintro e w2 ⟨v2, rfl, ho2, hb2⟩
  simp only [be4_len] at ho2
  obtain ⟨a2, k2, rfl, hk2, hm2⟩ := ho2.reads.shape
  have HO2 := Lib.hid ho2
  have HB2 := Lib.hid (HB1.out.trans hb2)
  clear ho2 hb2 HO1
  go_wp2_with (at_builtin; refine wpList_append_owns rfl _ _ 52 rfl w.heap.size 5 i (.int .u8 0) 1 1 Tryz.underlying52 Hi.out Hz0.out Hz1.out Hz2.out rfl (.slice a2 8 k2) 8 _ rfl HO2.out _ body.length _ rfl (HV.out.old HB2.out (Nat.le_refl _)) (u8_one _) (8 + body.length) rfl _ rfl (by omega) (by omega) HB2.out.size ?_; intro q k3 w3 h1 h2 h3 h4 h5; have H1 := Lib.hid h1; have H4 := Lib.hid h4; clear h1 h4 h5)
  have HB3 := Lib.hid (HB2.out.trans (Fr.below (Fr.of_grown (S := fun x => w.heap.size ≤ x) H4.out (fun x hx _ => (HO2.out.base_le x hx).1)) HB2.out.size (fun x hx => hx)))
  have hcb := crc_lt body
  have hwb := wrap_u64_u32 _ hcb
  refine (crc_any w3 _ body (HV.out.old HB3.out (Nat.le_refl _)) (by omega)).mono ?_
  rintro e w3' ⟨rfl, rfl⟩
  generalize hcrb : crc body = c2 at *
  go_wp2_with fail
  have hl3 : (be4 body.length ++ be4 c1 ++ body).length = 8 + body.length := by simp [be4_len]; omega
  have HO3 : Hid (Owns w3' w.heap.size 5 1 (.slice q (8 + body.length) k3) (be4 body.length ++ be4 c1 ++ body).length ((be4 body.length ++ be4 c1 ++ body).map M.u8)) := by
    refine Lib.hid ?_
    rw [hl3]
    have := H1.out
    rw [← List.map_append] at this
    exact this
  refine (lay_any w3' w.heap.size HB3.out.size _ (be4 body.length ++ be4 c1 ++ body) HO3.out (by rw [hl3]; omega) c2 hcb).mono ?_
  rintro e w4 ⟨v4, rfl, ho4, hb4⟩
  have HO4 := Lib.hid ho4
  have HB4 := Lib.hid (HB3.out.trans hb4)
  clear ho4 hb4
  go_wp2_with fail
  go_ret2
  refine ⟨_, rfl, ?_, HB4.out⟩
  have := HO4.out
  have e1 : 8 + body.length + 4 = body.length + 12 := by omega
  rw [hl3, e1] at this
  have e2 : frame body = be4 body.length ++ be4 c1 ++ body ++ be4 c2 := by rw [frame, hcrc, hcrb]
  rw [e2]
  exact this
end Go.Proofs.YtpnlcogbahjnoaaGreat.F
