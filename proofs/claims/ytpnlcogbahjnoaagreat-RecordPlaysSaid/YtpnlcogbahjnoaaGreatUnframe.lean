/- codec.Unframe: what it computes. Conditions stand at each theorem. -/
import Derived.Test.YtpnlcogbahjnoaaGreatFrame
import Derived.BigQuiet
namespace Go.Proofs.YtpnlcogbahjnoaaGreat.F
open Go.RowKit Go.Proofs.YtpnlcogbahjnoaaGreat.M
set_option linter.unusedVariables false

/-- what a frame's head says: its body's length; or why it is none -/
inductive Unf where
  | no (e : Int)
  | ok (n : Nat)
def unf (b : List UInt8) : Unf :=
  if b.length < 8 then .no 2
  else if crc (b.take 4) ≠ beNum ((b.drop 4).take 4) then .no 5
  else if 1048576 < beNum (b.take 4) then .no 3
  else if b.length < 8 + beNum (b.take 4) + 4 then .no 2
  else if crc ((b.drop 8).take (beNum (b.take 4))) ≠ beNum ((b.drop (8 + beNum (b.take 4))).take 4) then .no 5
  else .ok (beNum (b.take 4))
def UnfOut (w w' : World) (b : List UInt8) (e : Ending) : Unf → Prop
  | .no c => e = .returned (.tuple #[.slice none 0 0, .int .i64 0, .int .i64 c])
  | .ok n => ∃ v', e = .returned (.tuple #[v', .int .i64 (n + 12 : Nat), .int .i64 0]) ∧ Owns w' w.heap.size 5 1 v' n (((b.drop 8).take n).map M.u8)

theorem q_crc (w : World) (v : Value) (bs : List UInt8) (hv : Bytes w v bs) (hl : bs.length ≤ 1099511627776) (n : Nat) :
    Calls Tryz.prog 75 #[v] (w.drewN n) fun e w' => e = .returned (.int .u32 (crc bs : Nat)) ∧ w.drewN n = w' :=
  (crc_any (w.drewN n) v bs (hv.below (below_drewN (Below.refl _ w) n)) hl).mono fun _ _ ⟨h1, h2⟩ => ⟨h1, h2.symm⟩
theorem q_number (w : World) (v : Value) (bs : List UInt8) (hv : Bytes w v bs) (hl : bs.length ≤ 4) (n : Nat) :
    Calls Tryz.prog 81 #[v] (w.drewN n) fun e w' => e = .returned (.int .u64 (beNum bs : Nat)) ∧ w.drewN n = w' :=
  (number_any (w.drewN n) v bs (hv.below (below_drewN (Below.refl _ w) n)) hl).mono fun _ _ ⟨h1, h2⟩ => ⟨h1, h2.symm⟩

theorem reads_as {w : World} {v : Value} {bs : List UInt8} {n : Nat} (hl : bs.length = n) (h : Bytes w v bs) : Reads w 1 v n (bs.map M.u8) := hl ▸ h
theorem q2_crc (w : World) (v : Value) (bs : List UInt8) (hv : Bytes w v bs) (hl : bs.length ≤ 1099511627776) (k n : Nat) :
    Calls Tryz.prog 75 #[v] (w.drewN (k + n)) fun e w' => e = .returned (.int .u32 (crc bs : Nat)) ∧ ∃ m, w' = w.drewN (k + m) :=
  (q_crc w v bs hv hl (k + n)).mono fun _ _ ⟨h1, h2⟩ => ⟨h1, n, h2.symm⟩
theorem q2_number (w : World) (v : Value) (bs : List UInt8) (hv : Bytes w v bs) (hl : bs.length ≤ 4) (k n : Nat) :
    Calls Tryz.prog 81 #[v] (w.drewN (k + n)) fun e w' => e = .returned (.int .u64 (beNum bs : Nat)) ∧ ∃ m, w' = w.drewN (k + m) :=
  (q_number w v bs hv hl (k + n)).mono fun _ _ ⟨h1, h2⟩ => ⟨h1, n, h2.symm⟩
set_option maxRecDepth 100000 in
set_option maxHeartbeats 1000000 in
theorem unframe_any (w : World) (v : Value) (b : List UInt8) (hv : Bytes w v b) (hl : b.length ≤ 1099511627776) :
    Calls Tryz.prog 66 #[v] w fun e w' => UnfOut w w' b e (unf b) ∧ Below w.heap.size w w' := by
  obtain ⟨i, hi, hz0, hz1, hz2⟩ := info_parts infoU8
  obtain ⟨a, cap, rfl, hc, hm⟩ := hv.shape
  have HV := Lib.hid hv
  have Hi := Lib.hid hi
  have Hz0 := Lib.hid hz0
  have Hz1 := Lib.hid hz1
  have Hz2 := Lib.hid hz2
  clear hv hi hz0 hz1 hz2
  by_cases h8 : b.length < 8
  · have hu : unf b = .no 2 := if_pos h8
    rw [hu]
    clear hu
    go_enter Tryz.func66, Tryz.ntmps66
    go_wp2_with fail
    go_ret3
    exact ⟨rfl, Below.refl _ _⟩
  have hcl := crc_lt (b.take 4)
  have hnl := beNum_lt4 ((b.drop 4).take 4) (by simp; omega)
  have hnl0 := beNum_lt4 (b.take 4) (by simp; omega)
  have hwc := wrap_u64_u32 _ hcl
  have HS1 := Lib.hid (bytes_upto HV.out 4 (by omega))
  have HS2 := Lib.hid (bytes_at HV.out 4 4 (by omega))
  have hl1 : (b.take 4).length = 4 := by simp; omega
  have hl2 : ((b.drop 4).take 4).length = 4 := by simp; omega
  by_cases hcn : crc (b.take 4) = beNum ((b.drop 4).take 4)
  case neg =>
    have hu : unf b = .no 5 := by unfold unf; rw [if_neg h8, if_pos hcn]
    rw [hu]
    clear hu
    generalize hcv : crc (b.take 4) = c1 at *
    generalize hnv : beNum ((b.drop 4).take 4) = c2 at *
    have hcn' : ¬ ((c1 : Int) = c2) := by omega
    go_enter Tryz.func66, Tryz.ntmps66
    go_upto_region 3 with fail
    go_quiet ((first | (go_at_call 75; exact quiet_same (hcv ▸ q_crc w _ (b.take 4) HS1.out (by omega) _)) | (go_at_call 81; exact quiet_same (hnv ▸ q_number w _ ((b.drop 4).take 4) HS2.out (by omega) _))))
    go_wp2_with fail
    go_ret3
    exact ⟨rfl, below_drewN (Below.refl _ _) _⟩
  by_cases hbig : 1048576 < beNum (b.take 4)
  case pos =>
    have hu : unf b = .no 3 := by unfold unf; rw [if_neg h8, if_neg (by simpa using hcn), if_pos hbig]
    rw [hu]
    clear hu
    generalize hcv : crc (b.take 4) = c1 at *
    generalize hnv : beNum ((b.drop 4).take 4) = c2 at *
    generalize hnv0 : beNum (b.take 4) = n0 at *
    subst hcn
    go_enter Tryz.func66, Tryz.ntmps66
    go_upto_region 3 with fail
    go_quiet ((first | (go_at_call 75; exact quiet_same (hcv ▸ q_crc w _ (b.take 4) HS1.out (by omega) _)) | (go_at_call 81; exact quiet_same (hnv ▸ q_number w _ ((b.drop 4).take 4) HS2.out (by omega) _))))
    go_wp2_with fail
    refine (hnv0 ▸ q_number w _ (b.take 4) HS1.out (by omega) _).mono ?_
    rintro e w1 ⟨rfl, rfl⟩
    go_wp2_with fail
    go_ret3
    exact ⟨rfl, below_drewN (Below.refl _ _) _⟩
  by_cases hsh : b.length < 8 + beNum (b.take 4) + 4
  case pos =>
    have hu : unf b = .no 2 := by unfold unf; rw [if_neg h8, if_neg (by simpa using hcn), if_neg hbig, if_pos hsh]
    rw [hu]
    clear hu
    generalize hcv : crc (b.take 4) = c1 at *
    generalize hnv : beNum ((b.drop 4).take 4) = c2 at *
    generalize hnv0 : beNum (b.take 4) = n0 at *
    subst hcn
    have hwn : IntKind.i64.wrap (n0 : Int) = n0 := IntWalk.i64_in _ (by omega)
    have hw8 : IntKind.i64.wrap (8 + (n0 : Int)) = 8 + n0 := IntWalk.i64_in _ (by omega)
    have hw12 : IntKind.i64.wrap (8 + (n0 : Int) + 4) = 8 + n0 + 4 := IntWalk.i64_in _ (by omega)
    go_enter Tryz.func66, Tryz.ntmps66
    go_upto_region 3 with fail
    go_quiet ((first | (go_at_call 75; exact quiet_same (hcv ▸ q_crc w _ (b.take 4) HS1.out (by omega) _)) | (go_at_call 81; exact quiet_same (hnv ▸ q_number w _ ((b.drop 4).take 4) HS2.out (by omega) _))))
    go_wp2_with fail
    refine (hnv0 ▸ q_number w _ (b.take 4) HS1.out (by omega) _).mono ?_
    rintro e w1 ⟨rfl, rfl⟩
    go_wp2_with fail
    go_ret3
    exact ⟨rfl, below_drewN (Below.refl _ _) _⟩
  have hcl2 := crc_lt ((b.drop 8).take (beNum (b.take 4)))
  have hnl2 := beNum_lt4 ((b.drop (8 + beNum (b.take 4))).take 4) (by simp; omega)
  have hwc2 := wrap_u64_u32 _ hcl2
  have HS3 := Lib.hid (bytes_at HV.out 8 (beNum (b.take 4)) (by omega))
  have HS4 := Lib.hid (bytes_add HV.out (8 + beNum (b.take 4)) 4 (by omega))
  have hl3 : ((b.drop 8).take (beNum (b.take 4))).length = beNum (b.take 4) := by simp; omega
  have hl4 : ((b.drop (8 + beNum (b.take 4))).take 4).length = 4 := by simp; omega
  by_cases hcn2 : crc ((b.drop 8).take (beNum (b.take 4))) = beNum ((b.drop (8 + beNum (b.take 4))).take 4)
  case neg =>
    have hu : unf b = .no 5 := by unfold unf; rw [if_neg h8, if_neg (by simpa using hcn), if_neg hbig, if_neg hsh, if_pos hcn2]
    rw [hu]
    clear hu
    generalize hcv : crc (b.take 4) = c1 at *
    generalize hnv : beNum ((b.drop 4).take 4) = c2 at *
    generalize hnv0 : beNum (b.take 4) = n0 at *
    subst hcn
    have hwn : IntKind.i64.wrap (n0 : Int) = n0 := IntWalk.i64_in _ (by omega)
    have hw8 : IntKind.i64.wrap (8 + (n0 : Int)) = 8 + n0 := IntWalk.i64_in _ (by omega)
    have hw12 : IntKind.i64.wrap (8 + (n0 : Int) + 4) = 8 + n0 + 4 := IntWalk.i64_in _ (by omega)
    generalize hcv2 : crc ((b.drop 8).take n0) = c3 at *
    generalize hnv2 : beNum ((b.drop (8 + n0)).take 4) = c4 at *
    have hcn2' : ¬ ((c3 : Int) = c4) := by omega
    go_enter Tryz.func66, Tryz.ntmps66
    go_upto_region 3 with fail
    go_quiet ((first | (go_at_call 75; exact quiet_same (hcv ▸ q_crc w _ (b.take 4) HS1.out (by omega) _)) | (go_at_call 81; exact quiet_same (hnv ▸ q_number w _ ((b.drop 4).take 4) HS2.out (by omega) _))))
    go_wp2_with fail
    refine (hnv0 ▸ q_number w _ (b.take 4) HS1.out (by omega) _).mono ?_
    rintro e w1 ⟨rfl, rfl⟩
    go_upto_region 11 with fail
    go_quiet ((first | (go_at_call 75; exact hcv2 ▸ q2_crc w _ ((b.drop 8).take n0) HS3.out (by omega) _ _) | (go_at_call 81; exact hnv2 ▸ q2_number w _ ((b.drop (8 + n0)).take 4) HS4.out (by omega) _ _)))
    go_wp2_with fail
    go_ret3
    exact ⟨rfl, below_drewN (below_drewN (Below.refl _ _) _) _⟩
  have hu : unf b = .ok (beNum (b.take 4)) := by unfold unf; rw [if_neg h8, if_neg (by simpa using hcn), if_neg hbig, if_neg hsh, if_neg (by simpa using hcn2)]
  rw [hu]
  clear hu
  generalize hcv : crc (b.take 4) = c1 at *
  generalize hnv : beNum ((b.drop 4).take 4) = c2 at *
  generalize hnv0 : beNum (b.take 4) = n0 at *
  subst hcn
  have hwn : IntKind.i64.wrap (n0 : Int) = n0 := IntWalk.i64_in _ (by omega)
  have hw8 : IntKind.i64.wrap (8 + (n0 : Int)) = 8 + n0 := IntWalk.i64_in _ (by omega)
  have hw12 : IntKind.i64.wrap (8 + (n0 : Int) + 4) = 8 + n0 + 4 := IntWalk.i64_in _ (by omega)
  generalize hcv2 : crc ((b.drop 8).take n0) = c3 at *
  generalize hnv2 : beNum ((b.drop (8 + n0)).take 4) = c4 at *
  subst hcn2
  go_enter Tryz.func66, Tryz.ntmps66
  go_upto_region 3 with fail
  go_quiet ((first | (go_at_call 75; exact quiet_same (hcv ▸ q_crc w _ (b.take 4) HS1.out (by omega) _)) | (go_at_call 81; exact quiet_same (hnv ▸ q_number w _ ((b.drop 4).take 4) HS2.out (by omega) _))))
  go_wp2_with fail
  refine (hnv0 ▸ q_number w _ (b.take 4) HS1.out (by omega) _).mono ?_
  rintro e w1 ⟨rfl, rfl⟩
  go_upto_region 11 with fail
  go_quiet ((first | (go_at_call 75; exact hcv2 ▸ q2_crc w _ ((b.drop 8).take n0) HS3.out (by omega) _ _) | (go_at_call 81; exact hnv2 ▸ q2_number w _ ((b.drop (8 + n0)).take 4) HS4.out (by omega) _ _)))
  have e8 : 8 + n0 - 8 = n0 := by omega
  go_wp2_with (at_builtin; refine wpList_append_owns rfl _ _ 52 rfl w.heap.size 5 i (.int .u8 0) 1 1 Tryz.underlying52 Hi.out Hz0.out Hz1.out Hz2.out rfl (.slice none 0 0) 0 [] rfl (Owns.nil _ _ _ _) (.slice (Option.map (fun x : Addr => { block := x.block, off := x.off + 8 }) a) (8 + n0 - 8) (cap - 8)) n0 (((b.drop 8).take n0).map M.u8) rfl ?hr (u8_one _) n0 (by omega) (((b.drop 8).take n0).map M.u8) rfl (by omega) (by omega) (below_drewN (Below.refl w.heap.size w) _).size ?_; (case hr => rw [e8]; exact reads_as hl3 (HS3.out.below (below_drewN (Below.refl _ w) _))); intro q k w' h1 h2 h3 h4 h5; have H1 := Lib.hid h1; have H4 := Lib.hid h4; clear h1 h4 h5)
  go_ret3
  have e12 : (8 + (n0 : Int) + 4) = ((n0 + 12 : Nat) : Int) := by omega
  exact ⟨⟨_, congrArg (fun z => Ending.returned (.tuple #[.slice q n0 k, .int .i64 z, .int .i64 0])) e12, H1.out⟩, (below_drewN (Below.refl _ w) _).trans (Fr.below (Fr.of_grown (S := fun x => w.heap.size ≤ x) H4.out (fun x hx _ => by simp [Value.ownBlock] at hx)) (below_drewN (Below.refl w.heap.size w) _).size (fun x hx => hx))⟩
end Go.Proofs.YtpnlcogbahjnoaaGreat.F
