/- The reference's Frame and Unframe: what they compute. Conditions stand at each theorem. -/
import Derived.Test.YtpnlcogbahjnoaaGreatQCrc
import Derived.BigQuiet
namespace Go.Proofs.YtpnlcogbahjnoaaGreat.F
open Go.RowKit Go.Proofs.YtpnlcogbahjnoaaGreat.M
set_option linter.unusedVariables false

theorem owns_old {w w' : World} {base : Nat} {e : TypeId} {size : Nat} {v : Value} {n : Nat} {xs : List Value} (h : Owns w base e size v n xs) (hb : Below w.heap.size w w') : Owns w' base e size v n xs :=
  h.fr (Fr.of_below (S := fun _ => False) hb) (fun _ _ h => h)

set_option maxRecDepth 100000 in
set_option maxHeartbeats 4000000 in
theorem qframe_any (w : World) (v : Value) (body : List UInt8) (hv : Bytes w v body) (hl : body.length ≤ 1048576) :
    Calls Tryz.prog 63 #[v] w fun e w' => ∃ v', e = .returned (.tuple #[v', .int .i64 0]) ∧ Owns w' w.heap.size 5 1 v' (body.length + 12) ((frame body).map M.u8) ∧ Below w.heap.size w w' := by
  obtain ⟨i, hi, hz0, hz1, hz2⟩ := info_parts infoU8
  obtain ⟨a, cap, rfl, hc, hm⟩ := hv.shape
  have HV := Lib.hid hv
  have Hi := Lib.hid hi
  have Hz0 := Lib.hid hz0
  have Hz1 := Lib.hid hz1
  have Hz2 := Lib.hid hz2
  clear hv hi hz0 hz1 hz2
  have hwl := wrap_u32 body.length (by omega)
  have hwl' : (body.length : Int) % 4294967296 = body.length := by omega
  go_enter Tryz.func63, Tryz.ntmps63
  go_wp2_with fail
  refine (qfour_any w body.length (by omega)).mono ?_
  rintro e w1 ⟨v0, rfl, ho0, hb0⟩
  obtain ⟨a0, k0, rfl, hk0, hm0⟩ := ho0.reads.shape
  have HN := Lib.hid (Bytes.of_owns ho0)
  have HB1 := Lib.hid hb0
  clear ho0 hb0
  go_wp2_with fail
  refine (copy_any w1 _ (be4 body.length) HN.out (by simp [be4_len])).mono ?_
  rintro e w2 ⟨v1, rfl, ho1, hb1⟩
  rw [be4_len] at ho1
  obtain ⟨a1, k1, rfl, hk1, hm1⟩ := ho1.reads.shape
  have HO1 := Lib.hid (ho1.mono HB1.out.size)
  have HB2 := Lib.hid (HB1.out.trans (hb1.mono HB1.out.size))
  have HN2 := Lib.hid (Reads.below HN.out hb1)
  clear ho1 hb1 HN
  go_wp2_with fail
  refine (qcrc_any w2 _ (be4 body.length) HN2.out (by simp [be4_len])).mono ?_
  rintro e w2' ⟨rfl, rfl⟩
  have hcl := crc_lt (be4 body.length)
  generalize hcrc : crc (be4 body.length) = c1 at *
  go_wp2_with fail
  refine (qfour_any w2' c1 hcl).mono ?_
  rintro e w3 ⟨v2, rfl, ho2, hb2⟩
  obtain ⟨a2, k2, rfl, hk2, hm2⟩ := ho2.reads.shape
  have HO2 := Lib.hid (owns_old HO1.out hb2)
  have HR2 := Lib.hid ho2.reads
  have HB3 := Lib.hid (HB2.out.trans (hb2.mono HB2.out.size))
  clear ho2 hb2 HO1 HN2
  go_wp2_with (at_builtin; (first | (refine wpList_append_owns rfl _ _ 52 rfl w.heap.size 5 i (.int .u8 0) 1 1 Tryz.underlying52 Hi.out Hz0.out Hz1.out Hz2.out rfl (.slice a1 4 k1) 4 _ rfl HO2.out (.slice a2 4 k2) 4 _ rfl HR2.out (u8_one _) 8 rfl _ rfl (by omega) (by omega) HB3.out.size ?_; intro q k3 w4 h1 h2 h3 h4 h5; have H1 := Lib.hid h1; have HB4 := Lib.hid (HB3.out.trans (Fr.below (Fr.of_grown (S := fun x => w.heap.size ≤ x) h4 (fun x hx _ => (HO2.out.base_le x hx).1)) HB3.out.size (fun x hx => hx))); have HO3 : Hid (Owns w4 w.heap.size 5 1 (.slice q 8 k3) 8 ((be4 body.length ++ be4 c1).map M.u8)) := Lib.hid (by rw [List.map_append]; exact H1.out); clear H1 h1 h4 h5) | (refine wpList_append_owns rfl _ _ 52 rfl w.heap.size 5 i (.int .u8 0) 1 1 Tryz.underlying52 Hi.out Hz0.out Hz1.out Hz2.out rfl (.slice q 8 k3) 8 _ rfl HO3.out (.slice a body.length cap) body.length _ rfl (HV.out.old HB4.out (Nat.le_refl _)) (u8_one _) (8 + body.length) rfl _ rfl (by omega) (by omega) HB4.out.size ?_; intro q5 k5 w5 h1 h2 h3 h4 h5; have H1 := Lib.hid h1; have HB5 := Lib.hid (HB4.out.trans (Fr.below (Fr.of_grown (S := fun x => w.heap.size ≤ x) h4 (fun x hx _ => (HO3.out.base_le x hx).1)) HB4.out.size (fun x hx => hx))); clear h1 h4 h5)))
  have hcb := crc_lt body
  have HO5 : Hid (Owns w5 w.heap.size 5 1 (.slice q5 (8 + body.length) k5) (8 + body.length) ((be4 body.length ++ be4 c1 ++ body).map M.u8)) := Lib.hid (by rw [List.map_append]; exact H1.out)
  clear H1
  refine (qcrc_any w5 _ body (HV.out.old HB5.out (Nat.le_refl _)) (by omega)).mono ?_
  rintro e w5' ⟨rfl, rfl⟩
  generalize hcrb : crc body = c2 at *
  go_wp2_with fail
  refine (qfour_any w5' c2 hcb).mono ?_
  rintro e w6 ⟨v6, rfl, ho6, hb6⟩
  obtain ⟨a6, k6, rfl, hk6, hm6⟩ := ho6.reads.shape
  have HO6 := Lib.hid (owns_old HO5.out hb6)
  have HR6 := Lib.hid ho6.reads
  have HB6 := Lib.hid (HB5.out.trans (hb6.mono HB5.out.size))
  clear ho6 hb6 HO5
  go_wp2_with (at_builtin; refine wpList_append_owns rfl _ _ 52 rfl w.heap.size 5 i (.int .u8 0) 1 1 Tryz.underlying52 Hi.out Hz0.out Hz1.out Hz2.out rfl (.slice q5 (8 + body.length) k5) (8 + body.length) _ rfl HO6.out (.slice a6 4 k6) 4 _ rfl HR6.out (u8_one _) (8 + body.length + 4) rfl _ rfl (by omega) (by omega) HB6.out.size ?_; intro q7 k7 w7 h1 h2 h3 h4 h5; have H1 := Lib.hid h1; have HB7 := Lib.hid (HB6.out.trans (Fr.below (Fr.of_grown (S := fun x => w.heap.size ≤ x) h4 (fun x hx _ => (HO6.out.base_le x hx).1)) HB6.out.size (fun x hx => hx))); clear h1 h4 h5)
  go_ret2
  refine ⟨_, rfl, ?_, HB7.out⟩
  have := H1.out
  have e1 : 8 + body.length + 4 = body.length + 12 := by omega
  rw [e1, ← List.map_append] at this
  have e2 : frame body = be4 body.length ++ be4 c1 ++ body ++ be4 c2 := by rw [frame, hcrc, hcrb]
  rw [e2, e1]
  exact this

theorem qq_back (w : World) (v : Value) (bs : List UInt8) (hv : Bytes w v bs) (hl : bs.length = 4) (n : Nat) :
    Calls Tryz.prog 87 #[v] (w.drewN n) fun e w' => e = .returned (.int .u32 (beNum bs : Nat)) ∧ ∃ m, w' = w.drewN m := by
  match bs, hl with
  | [b0, b1, b2, b3], _ =>
    refine (qback_any (w.drewN n) v b0 b1 b2 b3 (Reads.below hv (below_drewN (Below.refl _ w) n))).mono ?_
    rintro e w' ⟨rfl, m, rfl⟩
    exact ⟨rfl, n + m, World.drewN_drewN _ _ _⟩
theorem qq2_back (w : World) (v : Value) (bs : List UInt8) (hv : Bytes w v bs) (hl : bs.length = 4) (k n : Nat) :
    Calls Tryz.prog 87 #[v] (w.drewN (k + n)) fun e w' => e = .returned (.int .u32 (beNum bs : Nat)) ∧ ∃ m, w' = w.drewN (k + m) := by
  match bs, hl with
  | [b0, b1, b2, b3], _ =>
    refine (qback_any (w.drewN (k + n)) v b0 b1 b2 b3 (Reads.below hv (below_drewN (Below.refl _ w) _))).mono ?_
    rintro e w' ⟨rfl, m, rfl⟩
    exact ⟨rfl, n + m, by rw [World.drewN_drewN, Nat.add_assoc]⟩
theorem qq_crc (w : World) (v : Value) (bs : List UInt8) (hv : Bytes w v bs) (hl : bs.length ≤ 1099511627776) (n : Nat) :
    Calls Tryz.prog 77 #[v] (w.drewN n) fun e w' => e = .returned (.int .u32 (crc bs : Nat)) ∧ w.drewN n = w' :=
  (qcrc_any (w.drewN n) v bs (hv.below (below_drewN (Below.refl _ w) n)) hl).mono fun _ _ ⟨h1, h2⟩ => ⟨h1, h2.symm⟩
theorem qq2_crc (w : World) (v : Value) (bs : List UInt8) (hv : Bytes w v bs) (hl : bs.length ≤ 1099511627776) (k n : Nat) :
    Calls Tryz.prog 77 #[v] (w.drewN (k + n)) fun e w' => e = .returned (.int .u32 (crc bs : Nat)) ∧ ∃ m, w' = w.drewN (k + m) :=
  (qq_crc w v bs hv hl (k + n)).mono fun _ _ ⟨h1, h2⟩ => ⟨h1, n, h2.symm⟩

set_option maxRecDepth 100000 in
set_option maxHeartbeats 1000000 in
theorem qunframe_any (w : World) (v : Value) (b : List UInt8) (hv : Bytes w v b) (hl : b.length ≤ 1099511627776) :
    Calls Tryz.prog 70 #[v] w fun e w' => UnfOut w w' b e (unf b) ∧ Below w.heap.size w w' := by
  obtain ⟨i, hi, hz0, hz1, hz2⟩ := info_parts infoU8
  obtain ⟨a, cap, rfl, hc, hm⟩ := hv.shape
  have HV := Lib.hid hv
  have Hi := Lib.hid hi
  have Hz0 := Lib.hid hz0
  have Hz1 := Lib.hid hz1
  have Hz2 := Lib.hid hz2
  clear hv hi hz0 hz1 hz2
  by_cases h8 : b.length < 8
  · have hu : unf b = .no 2 := if_pos h8
    rw [hu]
    clear hu
    go_enter Tryz.func70, Tryz.ntmps70
    go_wp2_with fail
    go_ret3
    exact ⟨rfl, Below.refl _ _⟩
  have hcl := crc_lt (b.take 4)
  have hnl := beNum_lt4 ((b.drop 4).take 4) (by simp; omega)
  have hnl0 := beNum_lt4 (b.take 4) (by simp; omega)
  have hwc := wrap_u64_u32 _ hcl
  have HS1 := Lib.hid (bytes_upto HV.out 4 (by omega))
  have HS2 := Lib.hid (bytes_at HV.out 4 4 (by omega))
  have hl1 : (b.take 4).length = 4 := by simp; omega
  have hl2 : ((b.drop 4).take 4).length = 4 := by simp; omega
  by_cases hcn : crc (b.take 4) = beNum ((b.drop 4).take 4)
  case neg =>
    have hu : unf b = .no 5 := by unfold unf; rw [if_neg h8, if_pos hcn]
    rw [hu]
    clear hu
    generalize hcv : crc (b.take 4) = c1 at *
    generalize hnv : beNum ((b.drop 4).take 4) = c2 at *
    have hcn' : ¬ ((c2 : Int) = c1) := by omega
    go_enter Tryz.func70, Tryz.ntmps70
    go_upto_region 3 with fail
    go_quiet ((first | (go_at_call 77; exact quiet_same (hcv ▸ qq_crc w _ (b.take 4) HS1.out (by omega) _)) | (go_at_call 87; exact hnv ▸ qq_back w _ ((b.drop 4).take 4) HS2.out hl2 _)))
    go_wp2_with fail
    go_ret3
    exact ⟨rfl, below_drewN (Below.refl _ _) _⟩
  by_cases hbig : 1048576 < beNum (b.take 4)
  case pos =>
    have hu : unf b = .no 3 := by unfold unf; rw [if_neg h8, if_neg (by simpa using hcn), if_pos hbig]
    rw [hu]
    clear hu
    generalize hcv : crc (b.take 4) = c1 at *
    generalize hnv : beNum ((b.drop 4).take 4) = c2 at *
    generalize hnv0 : beNum (b.take 4) = n0 at *
    subst hcn
    go_enter Tryz.func70, Tryz.ntmps70
    go_upto_region 3 with fail
    go_quiet ((first | (go_at_call 77; exact quiet_same (hcv ▸ qq_crc w _ (b.take 4) HS1.out (by omega) _)) | (go_at_call 87; exact hnv ▸ qq_back w _ ((b.drop 4).take 4) HS2.out hl2 _)))
    go_wp2_with fail
    refine (hnv0 ▸ qq_back w _ (b.take 4) HS1.out hl1 _).mono ?_
    rintro e w1 ⟨rfl, nb, rfl⟩
    go_wp2_with fail
    go_ret3
    exact ⟨rfl, below_drewN (Below.refl _ _) _⟩
  by_cases hsh : b.length < 8 + beNum (b.take 4) + 4
  case pos =>
    have hu : unf b = .no 2 := by unfold unf; rw [if_neg h8, if_neg (by simpa using hcn), if_neg hbig, if_pos hsh]
    rw [hu]
    clear hu
    generalize hcv : crc (b.take 4) = c1 at *
    generalize hnv : beNum ((b.drop 4).take 4) = c2 at *
    generalize hnv0 : beNum (b.take 4) = n0 at *
    subst hcn
    have hwn : IntKind.i64.wrap (n0 : Int) = n0 := IntWalk.i64_in _ (by omega)
    have hw8 : IntKind.i64.wrap (8 + (n0 : Int)) = 8 + n0 := IntWalk.i64_in _ (by omega)
    have hw12 : IntKind.i64.wrap (8 + (n0 : Int) + 4) = 8 + n0 + 4 := IntWalk.i64_in _ (by omega)
    go_enter Tryz.func70, Tryz.ntmps70
    go_upto_region 3 with fail
    go_quiet ((first | (go_at_call 77; exact quiet_same (hcv ▸ qq_crc w _ (b.take 4) HS1.out (by omega) _)) | (go_at_call 87; exact hnv ▸ qq_back w _ ((b.drop 4).take 4) HS2.out hl2 _)))
    go_wp2_with fail
    refine (hnv0 ▸ qq_back w _ (b.take 4) HS1.out hl1 _).mono ?_
    rintro e w1 ⟨rfl, nb, rfl⟩
    go_wp2_with fail
    go_ret3
    exact ⟨rfl, below_drewN (Below.refl _ _) _⟩
  have hcl2 := crc_lt ((b.drop 8).take (beNum (b.take 4)))
  have hnl2 := beNum_lt4 ((b.drop (8 + beNum (b.take 4))).take 4) (by simp; omega)
  have hwc2 := wrap_u64_u32 _ hcl2
  have HS3 := Lib.hid (bytes_at HV.out 8 (beNum (b.take 4)) (by omega))
  have HS4 : Hid (Bytes w (.slice (Option.map (fun x : Addr => { block := x.block, off := x.off + (beNum (b.take 4) + 8) }) a) 4 (cap - (beNum (b.take 4) + 8))) ((b.drop (8 + beNum (b.take 4))).take 4)) :=
    Lib.hid (by have := bytes_at HV.out (beNum (b.take 4) + 8) 4 (by omega); rw [Nat.add_comm 8]; exact this)
  have hl3 : ((b.drop 8).take (beNum (b.take 4))).length = beNum (b.take 4) := by simp; omega
  have hl4 : ((b.drop (8 + beNum (b.take 4))).take 4).length = 4 := by simp; omega
  by_cases hcn2 : crc ((b.drop 8).take (beNum (b.take 4))) = beNum ((b.drop (8 + beNum (b.take 4))).take 4)
  case neg =>
    have hu : unf b = .no 5 := by unfold unf; rw [if_neg h8, if_neg (by simpa using hcn), if_neg hbig, if_neg hsh, if_pos hcn2]
    rw [hu]
    clear hu
    generalize hcv : crc (b.take 4) = c1 at *
    generalize hnv : beNum ((b.drop 4).take 4) = c2 at *
    generalize hnv0 : beNum (b.take 4) = n0 at *
    subst hcn
    have hwn : IntKind.i64.wrap (n0 : Int) = n0 := IntWalk.i64_in _ (by omega)
    have hw8 : IntKind.i64.wrap (8 + (n0 : Int)) = 8 + n0 := IntWalk.i64_in _ (by omega)
    have hw12 : IntKind.i64.wrap (8 + (n0 : Int) + 4) = 8 + n0 + 4 := IntWalk.i64_in _ (by omega)
    generalize hcv2 : crc ((b.drop 8).take n0) = c3 at *
    generalize hnv2 : beNum ((b.drop (8 + n0)).take 4) = c4 at *
    have hcn2' : ¬ ((c4 : Int) = c3) := by omega
    go_enter Tryz.func70, Tryz.ntmps70
    go_upto_region 3 with fail
    go_quiet ((first | (go_at_call 77; exact quiet_same (hcv ▸ qq_crc w _ (b.take 4) HS1.out (by omega) _)) | (go_at_call 87; exact hnv ▸ qq_back w _ ((b.drop 4).take 4) HS2.out hl2 _)))
    go_wp2_with fail
    refine (hnv0 ▸ qq_back w _ (b.take 4) HS1.out hl1 _).mono ?_
    rintro e w1 ⟨rfl, nb, rfl⟩
    go_upto_region 11 with fail
    go_quiet ((first | (go_at_call 77; exact hcv2 ▸ qq2_crc w _ ((b.drop 8).take n0) HS3.out (by omega) _ _) | (go_at_call 87; exact hnv2 ▸ qq2_back w _ ((b.drop (8 + n0)).take 4) HS4.out hl4 _ _)))
    go_wp2_with fail
    go_ret3
    exact ⟨rfl, below_drewN (below_drewN (Below.refl _ _) _) _⟩
  have hu : unf b = .ok (beNum (b.take 4)) := by unfold unf; rw [if_neg h8, if_neg (by simpa using hcn), if_neg hbig, if_neg hsh, if_neg (by simpa using hcn2)]
  rw [hu]
  clear hu
  generalize hcv : crc (b.take 4) = c1 at *
  generalize hnv : beNum ((b.drop 4).take 4) = c2 at *
  generalize hnv0 : beNum (b.take 4) = n0 at *
  subst hcn
  have hwn : IntKind.i64.wrap (n0 : Int) = n0 := IntWalk.i64_in _ (by omega)
  have hw8 : IntKind.i64.wrap (8 + (n0 : Int)) = 8 + n0 := IntWalk.i64_in _ (by omega)
  have hw12 : IntKind.i64.wrap (8 + (n0 : Int) + 4) = 8 + n0 + 4 := IntWalk.i64_in _ (by omega)
  generalize hcv2 : crc ((b.drop 8).take n0) = c3 at *
  generalize hnv2 : beNum ((b.drop (8 + n0)).take 4) = c4 at *
  subst hcn2
  go_enter Tryz.func70, Tryz.ntmps70
  go_upto_region 3 with fail
  go_quiet ((first | (go_at_call 77; exact quiet_same (hcv ▸ qq_crc w _ (b.take 4) HS1.out (by omega) _)) | (go_at_call 87; exact hnv ▸ qq_back w _ ((b.drop 4).take 4) HS2.out hl2 _)))
  go_wp2_with fail
  refine (hnv0 ▸ qq_back w _ (b.take 4) HS1.out hl1 _).mono ?_
  rintro e w1 ⟨rfl, nb, rfl⟩
  go_upto_region 11 with fail
  go_quiet ((first | (go_at_call 77; exact hcv2 ▸ qq2_crc w _ ((b.drop 8).take n0) HS3.out (by omega) _ _) | (go_at_call 87; exact hnv2 ▸ qq2_back w _ ((b.drop (8 + n0)).take 4) HS4.out hl4 _ _)))
  go_wp2_with fail
  have W := below_drewN (Below.refl w.heap.size w) (nb + nq)
  have hs : (w.drewN (nb + nq)).heap.size = w.heap.size := rfl
  refine (copy_any _ _ ((b.drop 8).take n0) (HS3.out.below W) (by omega)).mono ?_
  rintro e w' ⟨v', rfl, ho, hb⟩
  rw [hl3, hs] at ho
  rw [hs] at hb
  obtain ⟨a9, k9, rfl, -, -⟩ := ho.reads.shape
  have HO := Lib.hid ho
  have HB := Lib.hid (W.trans hb)
  clear ho hb W
  go_wp2_with fail
  go_ret3
  exact ⟨⟨_, congrArg (fun z => Ending.returned (.tuple #[.slice a9 n0 k9, .int .i64 z, .int .i64 0])) (by omega), HO.out⟩, HB.out⟩
end Go.Proofs.YtpnlcogbahjnoaaGreat.F
