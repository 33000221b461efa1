/- The reference's Log: Append. Conditions stand at each theorem. -/
import Derived.Test.YtpnlcogbahjnoaaGreatQLog
namespace Go.Proofs.YtpnlcogbahjnoaaGreat.F
open Go.RowKit Go.Proofs.YtpnlcogbahjnoaaGreat.M
set_option linter.unusedVariables false

set_option maxRecDepth 100000 in
set_option maxHeartbeats 2000000 in
theorem qlogapp_dead1 (w : World) (base p g h o cap : Nat) (st : Int) (x : List UInt8) (l : Nat) (hd : QD w g (.slice (some ⟨h, o, none⟩) 1 cap) st 0 false) (hcap : 1 ≤ cap) (s : ByteArray) (hs1 : 0 < s.size) (hs2 : s.size ≤ 24) (hf : QFile w h o s x l) (lv : Value) (rs : List (List UInt8)) (hl : QLogV w base p g s lv rs) (hbase : base ≤ w.heap.size)
    (v : Value) (new : List (List UInt8)) (hv : Hid (∀ w', Fr (LSv g h p lv) w w' → Recs w' v new)) (hne : new ≠ []) (hb : (body new).length ≤ 1048576) (hx : x.length ≤ 1073741824) (hrl : rs.length ≤ 1073741824) (h1 : 0 ≤ st) (h2 : st ≤ 100000) :
    Calls Tryz.prog 13 #[.pointer (some ⟨p, 0, none⟩), v] w fun e w' => e = .returned (.int .i64 7) ∧ QD w' g (.slice (some ⟨h, o, none⟩) 1 cap) (st + 1) (stepF 0) true ∧ QFile w' h o s (x ++ frame (body new)) l ∧ Fr (fun k => k = g ∨ k = h) w w' := by
  obtain ⟨hbp, z, hor⟩ := hl
  have hv0 := hv.out w (Fr.refl _ _)
  obtain ⟨va, vcap, rfl, hvc, hvm⟩ := hv0.shape
  have hnl : ¬ new.length = 0 := fun e => hne (List.eq_nil_of_length_eq_zero e)
  have hnl' : ¬ ((new.length : Int) = 0) := by omega
  have c0 := cell_at z 0
  have c1 := cell_at z 1
  simp at c0 c1
  have HD := Lib.hid hd
  have HF := Lib.hid hf
  have HZ := Lib.hid z
  have HV := Lib.hid hv0
  have HOR := Lib.hid hor
  have HAP : Hid (∀ t, t ≠ 48 → t ≠ 76 → ∀ k, (k = g ∨ k = h) → ¬ Tag w k t) := Lib.hid (qd_apart hd hf)
  have hE : stepE 0 = 7 := rfl
  clear hd hf z hv0 hor
  go_enter Tryz.func13, Tryz.ntmps13
  go_wp2_with fail
  refine (qrecframe_any w _ new HV.out hb).mono ?_
  rintro e w1 ⟨v1, rfl, ho1, hb1⟩
  obtain ⟨a1, k1, rfl, -, -⟩ := ho1.reads.shape
  have hfl := frame_len (body new)
  have HBY : Hid (OB w1 (.slice a1 ((body new).length + 12) k1) (frame (body new))) := Lib.hid (OB.of_owns ho1)
  have HD1 := Lib.hid (HD.out.below hb1)
  have HF1 := Lib.hid (HF.out.below hb1)
  have z1 := (hb1.block p (lt_of_obj HZ.out)).trans HZ.out
  have d0 := cell_at z1 0
  have d1 := cell_at z1 1
  simp at d0 d1
  have HB1 := Lib.hid hb1
  have HNP : Hid (¬ (p = g ∨ p = h)) := Lib.hid (fun hh => HAP.out _ (by decide) (by decide) p hh ⟨_, _, HZ.out⟩)
  clear ho1 hb1 c0 c1 z1
  go_upto_region 5 with fail
  go_region_held3 (fun w' => w'.cell? ⟨p, 0, none⟩ = some (.pointer (some ⟨g, 0, none⟩)) ∧ w'.cell? ⟨p, 1, none⟩ = some (.string s)) (simp [*]) (first | (go_at_call 29; refine (qapp1 _ g h o cap st 0 (HD1.out.below (below_drewN (Below.refl _ w1) 1)) hcap s hs1 hs2 x l (HF1.out.below (below_drewN (Below.refl _ w1) 1)) _ (frame (body new)) (HBY.out.below (below_drewN (Below.refl _ w1) 1)) (by omega) h1 (by omega) (by omega)).mono ?_; rintro e w2 ⟨rfl, h3, h3f, f3⟩; have g3 : Fr (fun k => k = g ∨ k = h) w1 w2 := Fr.trans (S' := fun k => k = g ∨ k = h) (Fr.of_below (below_drewN (Below.refl _ w1) 1)) f3 (fun _ _ h => h); have q0 := g3.cell_some d0 HNP.out; have q1 := g3.cell_some d1 HNP.out; have H3 := Lib.hid h3; have H3F := Lib.hid h3f; have F3 := Lib.hid g3; clear h3 h3f f3 g3))
  go_wp2_with fail
  go_ret
  exact ⟨rfl, H3.out, H3F.out, (Fr.of_below (S := fun k => k = g ∨ k = h) HB1.out).trans F3.out (fun _ _ h => h)⟩

set_option maxRecDepth 100000 in
set_option maxHeartbeats 2000000 in
theorem qlogapp_dead2 (w : World) (base p g h o cap : Nat) (st : Int) (x : List UInt8) (l : Nat) (hd : QD w g (.slice (some ⟨h, o, none⟩) 1 cap) st 1 false) (hcap : 1 ≤ cap) (s : ByteArray) (hs1 : 0 < s.size) (hs2 : s.size ≤ 24) (hf : QFile w h o s x l) (lv : Value) (rs : List (List UInt8)) (hl : QLogV w base p g s lv rs) (hbase : base ≤ w.heap.size)
    (v : Value) (new : List (List UInt8)) (hv : Hid (∀ w', Fr (LSv g h p lv) w w' → Recs w' v new)) (hne : new ≠ []) (hb : (body new).length ≤ 1048576) (hx : x.length ≤ 1073741824) (hrl : rs.length ≤ 1073741824) (h1 : 0 ≤ st) (h2 : st ≤ 100000) :
    Calls Tryz.prog 13 #[.pointer (some ⟨p, 0, none⟩), v] w fun e w' => e = .returned (.int .i64 7) ∧ QD w' g (.slice (some ⟨h, o, none⟩) 1 cap) (st + 2) (stepF 0) true ∧ QFile w' h o s (x ++ frame (body new)) l ∧ Fr (fun k => k = g ∨ k = h) w w' := by
  obtain ⟨hbp, z, hor⟩ := hl
  have hv0 := hv.out w (Fr.refl _ _)
  obtain ⟨va, vcap, rfl, hvc, hvm⟩ := hv0.shape
  have hnl : ¬ new.length = 0 := fun e => hne (List.eq_nil_of_length_eq_zero e)
  have hnl' : ¬ ((new.length : Int) = 0) := by omega
  have c0 := cell_at z 0
  have c1 := cell_at z 1
  simp at c0 c1
  have HD := Lib.hid hd
  have HF := Lib.hid hf
  have HZ := Lib.hid z
  have HV := Lib.hid hv0
  have HOR := Lib.hid hor
  have HAP : Hid (∀ t, t ≠ 48 → t ≠ 76 → ∀ k, (k = g ∨ k = h) → ¬ Tag w k t) := Lib.hid (qd_apart hd hf)
  have HXL : Hid ((x ++ frame (body new)).length ≤ 1099511627776) := Lib.hid (by rw [List.length_append]; have := frame_len (body new); omega)
  have hE : stepE 1 = 0 := rfl
  clear hd hf z hv0 hor
  go_enter Tryz.func13, Tryz.ntmps13
  go_wp2_with fail
  refine (qrecframe_any w _ new HV.out hb).mono ?_
  rintro e w1 ⟨v1, rfl, ho1, hb1⟩
  obtain ⟨a1, k1, rfl, -, -⟩ := ho1.reads.shape
  have hfl := frame_len (body new)
  have HBY : Hid (OB w1 (.slice a1 ((body new).length + 12) k1) (frame (body new))) := Lib.hid (OB.of_owns ho1)
  have HD1 := Lib.hid (HD.out.below hb1)
  have HF1 := Lib.hid (HF.out.below hb1)
  have z1 := (hb1.block p (lt_of_obj HZ.out)).trans HZ.out
  have d0 := cell_at z1 0
  have d1 := cell_at z1 1
  simp at d0 d1
  have HB1 := Lib.hid hb1
  have HNP : Hid (¬ (p = g ∨ p = h)) := Lib.hid (fun hh => HAP.out _ (by decide) (by decide) p hh ⟨_, _, HZ.out⟩)
  clear ho1 hb1 c0 c1 z1
  go_upto_region 5 with fail
  go_region_held3 (fun w' => w'.cell? ⟨p, 0, none⟩ = some (.pointer (some ⟨g, 0, none⟩)) ∧ w'.cell? ⟨p, 1, none⟩ = some (.string s)) (simp [*]) (first | (go_at_call 29; refine (qapp1 _ g h o cap st 1 (HD1.out.below (below_drewN (Below.refl _ w1) 1)) hcap s hs1 hs2 x l (HF1.out.below (below_drewN (Below.refl _ w1) 1)) _ (frame (body new)) (HBY.out.below (below_drewN (Below.refl _ w1) 1)) (by omega) h1 (by omega) (by omega)).mono ?_; rintro e w2 ⟨rfl, h3, h3f, f3⟩; have e1 : decide ((1 : Int) = 0) = false := rfl; have e2 : stepF 1 = 0 := rfl; rw [e1, e2] at h3; have g3 : Fr (fun k => k = g ∨ k = h) w1 w2 := Fr.trans (S' := fun k => k = g ∨ k = h) (Fr.of_below (below_drewN (Below.refl _ w1) 1)) f3 (fun _ _ h => h); have q0 := g3.cell_some d0 HNP.out; have q1 := g3.cell_some d1 HNP.out; have H3 := Lib.hid h3; have H3F := Lib.hid h3f; have F3 := Lib.hid g3; clear h3 h3f f3 g3))
  have hE2 : stepE 0 = 7 := rfl
  clear d0 d1
  go_upto_region 7 with fail
  go_region_held3 (fun w' => w'.cell? ⟨p, 0, none⟩ = some (.pointer (some ⟨g, 0, none⟩)) ∧ w'.cell? ⟨p, 1, none⟩ = some (.string s)) (simp [*]) (first | (go_at_call 30; refine (qsyn _ g h o cap (st + 1) 0 (H3.out.below (below_drewN (Below.refl _ w2) 1)) hcap s (x ++ frame (body new)) l (H3F.out.below (below_drewN (Below.refl _ w2) 1)) (by have := HXL.out; omega) (by omega) (by omega) (by omega)).mono ?_; rintro e w3 ⟨rfl, h4, h4f, f4⟩; have e3 : decide ((0 : Int) = 0) = true := rfl; have e4 : ∀ l n, syncL 0 l n = l := fun _ _ => rfl; rw [e3] at h4; rw [e4] at h4f; have g4 : Fr (fun k => k = g ∨ k = h) w2 w3 := Fr.trans (S' := fun k => k = g ∨ k = h) (Fr.of_below (below_drewN (Below.refl _ w2) 1)) f4 (fun _ _ h => h); have r0 := g4.cell_some q0 HNP.out; have r1 := g4.cell_some q1 HNP.out; have H4 := Lib.hid h4; have H4F := Lib.hid h4f; have F4 := Lib.hid g4; clear h4 h4f f4 g4))
  go_wp2_with fail
  go_ret
  have es : st + 1 + 1 = st + 2 := by omega
  have H4 := H4.out
  rw [es] at H4
  exact ⟨rfl, H4, H4F.out, ((Fr.of_below (S := fun k => k = g ∨ k = h) HB1.out).trans F3.out (fun _ _ h => h)).trans F4.out (fun _ _ h => h)⟩

set_option maxRecDepth 100000 in
set_option maxHeartbeats 2000000 in
theorem qlogapp_ok (w : World) (base p g h o cap : Nat) (st : Int) (x : List UInt8) (l : Nat) (fu : Int) (hfu : fu ≠ 0) (hfu2 : stepF fu ≠ 0) (hfu4 : fu ≤ 9223372036854775807) (hd : QD w g (.slice (some ⟨h, o, none⟩) 1 cap) st fu false) (hcap : 1 ≤ cap) (s : ByteArray) (hs1 : 0 < s.size) (hs2 : s.size ≤ 24) (hf : QFile w h o s x l) (lv : Value) (rs : List (List UInt8)) (hl : QLogV w base p g s lv rs) (hbase : base ≤ w.heap.size)
    (v : Value) (new : List (List UInt8)) (hv : Hid (∀ w', Fr (LSv g h p lv) w w' → Recs w' v new)) (hne : new ≠ []) (hb : (body new).length ≤ 1048576) (hx : x.length ≤ 1073741824) (hrl : rs.length ≤ 1073741824) (h1 : 0 ≤ st) (h2 : st ≤ 100000) :
    Calls Tryz.prog 13 #[.pointer (some ⟨p, 0, none⟩), v] w fun e w' => e = .returned (.int .i64 0) ∧ QD w' g (.slice (some ⟨h, o, none⟩) 1 cap) (st + 2) (stepF (stepF fu)) false ∧ QFile w' h o s (x ++ frame (body new)) (x ++ frame (body new)).length ∧ (∃ lv', QLogV w' base p g s lv' (rs ++ new) ∧ ∀ k, lv'.ownBlock = some k → k < w.heap.size → lv.ownBlock = some k) ∧ Fr (LSv g h p lv) w w' := by
  obtain ⟨hbp, z, hor⟩ := hl
  have hv0 := hv.out w (Fr.refl _ _)
  obtain ⟨va, vcap, rfl, hvc, hvm⟩ := hv0.shape
  have hnl : ¬ new.length = 0 := fun e => hne (List.eq_nil_of_length_eq_zero e)
  have hnl' : ¬ ((new.length : Int) = 0) := by omega
  have c0 := cell_at z 0
  have c1 := cell_at z 1
  simp at c0 c1
  have HD := Lib.hid hd
  have HF := Lib.hid hf
  have HZ := Lib.hid z
  have HV := Lib.hid hv0
  have HOR := Lib.hid hor
  have HAP : Hid (∀ t, t ≠ 48 → t ≠ 76 → ∀ k, (k = g ∨ k = h) → ¬ Tag w k t) := Lib.hid (qd_apart hd hf)
  have HXL : Hid ((x ++ frame (body new)).length ≤ 1099511627776) := Lib.hid (by rw [List.length_append]; have := frame_len (body new); omega)
  have hE : stepE fu = 0 := if_neg hfu
  have HDD : Hid (decide (fu = 0) = false) := Lib.hid (decide_eq_false hfu)
  clear hd hf z hv0 hor
  go_enter Tryz.func13, Tryz.ntmps13
  go_wp2_with fail
  refine (qrecframe_any w _ new HV.out hb).mono ?_
  rintro e w1 ⟨v1, rfl, ho1, hb1⟩
  obtain ⟨a1, k1, rfl, -, -⟩ := ho1.reads.shape
  have hfl := frame_len (body new)
  have HBY : Hid (OB w1 (.slice a1 ((body new).length + 12) k1) (frame (body new))) := Lib.hid (OB.of_owns ho1)
  have HD1 := Lib.hid (HD.out.below hb1)
  have HF1 := Lib.hid (HF.out.below hb1)
  have z1 := (hb1.block p (lt_of_obj HZ.out)).trans HZ.out
  have d0 := cell_at z1 0
  have d1 := cell_at z1 1
  simp at d0 d1
  have HB1 := Lib.hid hb1
  have HNP : Hid (¬ (p = g ∨ p = h)) := Lib.hid (fun hh => HAP.out _ (by decide) (by decide) p hh ⟨_, _, HZ.out⟩)
  clear ho1 hb1 c0 c1 z1
  go_upto_region 5 with fail
  go_region_held3 (fun w' => w'.cell? ⟨p, 0, none⟩ = some (.pointer (some ⟨g, 0, none⟩)) ∧ w'.cell? ⟨p, 1, none⟩ = some (.string s)) (simp [*]) (first | (go_at_call 29; refine (qapp1 _ g h o cap st fu (HD1.out.below (below_drewN (Below.refl _ w1) 1)) hcap s hs1 hs2 x l (HF1.out.below (below_drewN (Below.refl _ w1) 1)) _ (frame (body new)) (HBY.out.below (below_drewN (Below.refl _ w1) 1)) (by omega) h1 (by omega) hfu4).mono ?_; rintro e w2 ⟨rfl, h3, h3f, f3⟩; rw [HDD.out] at h3; have g3 : Fr (fun k => k = g ∨ k = h) w1 w2 := Fr.trans (S' := fun k => k = g ∨ k = h) (Fr.of_below (below_drewN (Below.refl _ w1) 1)) f3 (fun _ _ h => h); have q0 := g3.cell_some d0 HNP.out; have q1 := g3.cell_some d1 HNP.out; have H3 := Lib.hid h3; have H3F := Lib.hid h3f; have F3 := Lib.hid g3; clear h3 h3f f3 g3))
  have hE2 : stepE (stepF fu) = 0 := if_neg hfu2
  have HDD2 : Hid (decide (stepF fu = 0) = false) := Lib.hid (decide_eq_false hfu2)
  have HSL : Hid (syncL (stepF fu) l (x ++ frame (body new)).length = (x ++ frame (body new)).length) := Lib.hid (if_neg hfu2)
  have hf5 : stepF fu ≤ 9223372036854775807 := by unfold stepF; split <;> omega
  clear d0 d1
  go_upto_region 7 with fail
  go_region_held3 (fun w' => w'.cell? ⟨p, 0, none⟩ = some (.pointer (some ⟨g, 0, none⟩)) ∧ w'.cell? ⟨p, 1, none⟩ = some (.string s)) (simp [*]) (first | (go_at_call 30; refine (qsyn _ g h o cap (st + 1) (stepF fu) (H3.out.below (below_drewN (Below.refl _ w2) 1)) hcap s (x ++ frame (body new)) l (H3F.out.below (below_drewN (Below.refl _ w2) 1)) (by have := HXL.out; omega) (by omega) (by omega) hf5).mono ?_; rintro e w3 ⟨rfl, h4, h4f, f4⟩; rw [HDD2.out] at h4; rw [HSL.out] at h4f; have g4 : Fr (fun k => k = g ∨ k = h) w2 w3 := Fr.trans (S' := fun k => k = g ∨ k = h) (Fr.of_below (below_drewN (Below.refl _ w2) 1)) f4 (fun _ _ h => h); have r0 := g4.cell_some q0 HNP.out; have r1 := g4.cell_some q1 HNP.out; have H4 := Lib.hid h4; have H4F := Lib.hid h4f; have F4 := Lib.hid g4; clear h4 h4f f4 g4))
  clear q0 q1 r0 r1
  have G3 : Hid (Fr (fun k => k = g ∨ k = h) w w3) := Lib.hid (((Fr.of_below (S := fun k => k = g ∨ k = h) HB1.out).trans F3.out (fun _ _ h => h)).trans F4.out (fun _ _ h => h))
  have es : st + 1 + 1 = st + 2 := by omega
  have H4' := H4.out
  rw [es] at H4'
  have H5 := Lib.hid H4'
  have hnw : ¬ (p = g ∨ p = h) := HNP.out
  have L3 : Hid (QLogV w3 base p g s lv rs) := Lib.hid ⟨hbp, G3.out.obj HZ.out hnw, HOR.out.fr G3.out (fun k hk => ⟨HAP.out _ (by decide) (by decide) k hk, HAP.out _ (by decide) (by decide) k hk⟩)⟩
  clear H4' es H4 hnw
  obtain ⟨i, hi, hz0, hz1, hz2⟩ := info_parts info23
  have Hi := Lib.hid hi
  have Hz0 := Lib.hid hz0
  have Hz1 := Lib.hid hz1
  have Hz2 := Lib.hid hz2
  clear hi hz0 hz1 hz2
  have hencl : (encRecs new).length ≤ 1048576 := by
    have hbl : (body new).length = (encNum new.length).length + (encRecs new).length := by simp [body]
    omega
  have hnew := recs_le new
  go_wp2_with fail
  go_loopg [7] new.length (fun n s7 wr => ∃ (j : Nat) (lj : Value), j ≤ new.length ∧ n + j = new.length ∧ s7 = .int .i64 j ∧ Hid (QLogV wr base p g s lj (rs ++ new.take j)) ∧ Hid (QD wr g (.slice (some ⟨h, o, none⟩) 1 cap) (st + 2) (stepF (stepF fu)) false) ∧ Hid (QFile wr h o s (x ++ frame (body new)) (x ++ frame (body new)).length) ∧ Hid (Fr (LSv g h p lv) w wr) ∧ Hid (∀ k, lj.ownBlock = some k → k < w.heap.size → lv.ownBlock = some k))
  case atStart => exact ⟨0, lv, by omega, by omega, rfl, by simpa using L3, H5, H4F, Lib.hid (G3.out.mono (fun _ _ h => .inl h)), Lib.hid (fun g hg _ => hg)⟩
  case round =>
    obtain ⟨j, lj, hj, hkj, rfl, hlg, hqd, hqf, hfr, hown⟩ := hrel
    by_cases hlt : j < new.length
    · obtain ⟨gg, oo, u, hix, hcell, hub, -⟩ := recs_ix (hv.out wr hfr.out) j hlt
      obtain ⟨ua, ucap, hue, hu1, hu2⟩ := hub.shape
      have hrj := rec_le new j hlt
      subst hue
      have HU := Lib.hid hub
      obtain ⟨-, zj, ho⟩ := hlg.out
      have c2 := cell_at zj 2
      have f2 := free_at zj 2
      simp at c2
      obtain ⟨la, lk, rfl, hlk1, hlk2⟩ := ho.shape
      have hllen : (rs ++ new.take j).length = rs.length + j := by simp; omega
      rw [hllen] at c2 hlk1
      have HOJ := Lib.hid ho
      have HZJ := Lib.hid zj
      clear hub ho zj
      generalize hrj' : new[j] = r at *
      obtain ⟨vs, hvs, hov⟩ := HOJ.out
      rw [hllen] at hvs
      have hown2 : Hid (∀ g, (Value.slice la (rs.length + j) lk).ownBlock = some g → g < w.heap.size → lv.ownBlock = some g) := Lib.hid (fun g hg => hown.out g (by rw [hllen]; exact hg))
      have HVS := Lib.hid hvs
      have HOV := Lib.hid hov
      have hpl := lt_of_obj HZJ.out
      have HTG : Hid (∀ g, (Value.slice la (rs.length + j) lk).ownBlock = some g → Tag wr g 52 ∧ base ≤ g) := Lib.hid (fun g hg => ORecs.tag (rs := rs ++ new.take j) (v := .slice la (rs.length + j) lk) ⟨vs, by rw [hllen]; exact hvs, hov⟩ hg)
      have HPN : Hid (some p ≠ (Value.slice la (rs.length + j) lk).ownBlock) := Lib.hid (fun hh => Tag.not HZJ.out (by decide) (HTG.out p hh.symm).1)
      clear hvs hov
      have hbl2 : base ≤ wr.heap.size := Nat.le_trans hbase hfr.out.size
      go_upto_region 13 with fail
      go_region_law ((first | (refine step_append_owns_h (by rfl) _ _ 39 rfl base 52 i (.slice none 0 0) 1 24 Tryz.underlying39 Hi.out Hz0.out Hz1.out Hz2.out rfl (.slice la (rs.length + j) lk) (rs.length + j) vs rfl (HVS.out.fr (((Fr.of_below (S := fun _ => False) G5.out)).alloc _) (fun _ _ => id)) _ 1 [.slice a5 r.length k5] rfl (Reads.one (heap_alloc_new w5 _)) (by simp [Value.oneCell']) (rs.length + j + 1) rfl (vs ++ [.slice a5 r.length k5]) rfl (by omega) (by omega) (Nat.le_trans hbl2 (Nat.le_trans G5.out.size (by simp))) ?_; intro q kq w6 t1 t2 t3 t4 t5; have y4 := grown_cell t4 (y3 _) HPN.out; have n4 := (grown_free t4 (o := 2) hp6 HPN.out).trans (n3 _); have T1 := Lib.hid t1; have T4 := Lib.hid t4; have T5 := Lib.hid t5; clear t1 t4 t5) | (go_simp; go_at_call 35; refine (copy_any _ _ r (HU.out.below (below_drewN (Below.refl _ wr) 1)) (by omega)).mono ?_; rintro e w5 ⟨v5, rfl, ho5, hb5⟩; obtain ⟨a5, k5, rfl, hk51, hk52⟩ := ho5.reads.shape; have g5 : Below wr.heap.size wr w5 := (below_drewN (Below.refl _ wr) 1).trans hb5; have y2 := ((bcell g5).1 p 2 hpl).trans c2; have n2 := ((bcell g5).2 p 2 hpl).trans f2; have hp5 : p < w5.heap.size := Nat.lt_of_lt_of_le hpl g5.size; have y3 := fun o : Obj => ((bcell ((Below.refl w5.heap.size w5).alloc (Nat.le_refl _) o)).1 p 2 hp5).trans y2; have hp6 : p < (w5.alloc (.cells #[.slice a5 r.length k5] 52)).heap.size := (by simp; omega); have n3 := fun o : Obj => ((bcell ((Below.refl w5.heap.size w5).alloc (Nat.le_refl _) o)).2 p 2 hp5).trans n2; have HO5 := Lib.hid ho5; have G5 := Lib.hid g5; clear ho5 hb5 g5)))
      all_goals
        have F5 : Fr (fun k => (Value.slice la (rs.length + j) lk).ownBlock = some k) wr w6 := Fr.trans (S := fun k => (Value.slice la (rs.length + j) lk).ownBlock = some k) (Fr.alloc (Fr.of_below G5.out) _) (Fr.of_grown (S := fun k => (Value.slice la (rs.length + j) lk).ownBlock = some k) T4.out (fun k hk _ => hk)) (fun _ _ h => h)
        have z6 := F5.obj HZJ.out (fun hh => HPN.out hh.symm)
        have o6 : OB w6 (.slice a5 r.length k5) r := ((OB.of_owns HO5.out).below ((Below.refl _ _).alloc (Nat.le_refl _) _)).fr (Fr.of_grown (S := fun k => (Value.slice la (rs.length + j) lk).ownBlock = some k) T4.out (fun k hk _ => hk)) (fun g hg hh => by
          obtain ⟨cur, fz, hz⟩ := (HTG.out g hg).1
          have hz5 := ((Below.refl w5.heap.size w5).alloc (Nat.le_refl _) (.cells #[.slice a5 r.length k5] 52)).block g (Nat.lt_of_lt_of_le (lt_of_obj hz) G5.out.size) |>.trans ((G5.out.block g (lt_of_obj hz)).trans hz)
          exact Tag.not hz5 (by decide) hh)
        have hov6 := (HOV.out.fr F5 (fun g hg => by obtain ⟨cur, fz, hz⟩ := (HTG.out g hg).1; exact Tag.not hz (by decide))).append (OVals.one o6)
        have F7 : Fr (fun k => k = p) w6 (w6.setCell ⟨p, 2, none⟩ (.slice q (rs.length + j + 1) kq)) := Fr.setCell (Fr.refl _ _) _ _ (fun _ => rfl)
        have ntp : ∀ g, g = p → ¬ Tag w6 g 5 ∧ ¬ Tag w6 g 52 := by rintro g rfl; exact ⟨Tag.not z6 (by decide), Tag.not z6 (by decide)⟩
        have hlen' : (rs ++ new.take (j + 1)).length = rs.length + j + 1 := by simp; omega
        have etk : rs ++ new.take (j + 1) = (rs ++ new.take j) ++ [r] := by rw [List.take_succ_eq_append_getElem hlt, hrj', List.append_assoc]
        have or7 : ORecs (w6.setCell ⟨p, 2, none⟩ (.slice q (rs.length + j + 1) kq)) base (.slice q (rs.length + j + 1) kq) (rs ++ new.take (j + 1)) := by
          exact ORecs.fr ⟨vs ++ [.slice a5 r.length k5], by rw [hlen']; exact T1.out, by rw [etk]; exact hov6⟩ F7 ntp
        have z7 := heap_setCell_at z6 2 (.slice q (rs.length + j + 1) kq)
        have F8 : Fr (fun k => k = p ∨ (Value.slice la (rs.length + j) lk).ownBlock = some k) wr (w6.setCell ⟨p, 2, none⟩ (.slice q (rs.length + j + 1) kq)) := (F5.mono (S' := fun k => k = p ∨ (Value.slice la (rs.length + j) lk).ownBlock = some k) (fun _ _ h => .inr h)).trans F7 (fun _ _ h => .inl h)
        have hnF : ∀ (k : Nat) (t : TypeId), Tag wr k t → t ≠ 44 → t ≠ 52 → ¬ (k = p ∨ (Value.slice la (rs.length + j) lk).ownBlock = some k) := by
          rintro k t ht hn1 hn2 (hh | hh)
          · subst hh; exact Tag.not HZJ.out (Ne.symm hn1) ht
          · exact tag_ne ht (HTG.out k hh).1 hn2 rfl
        have hqd' := hqd.out.fr F8 (hnF _ _ hqd.out.tag (by decide) (by decide))
        have hqf' := hqf.out.fr F8 (hnF _ _ hqf.out.tag (by decide) (by decide)) (fun k hk ht => hnF k _ ht (by decide) (by decide) hk)
        have hfr' : Fr (LSv g h p lv) w (w6.setCell ⟨p, 2, none⟩ (.slice q (rs.length + j + 1) kq)) := hfr.out.trans F8 (by
          rintro k hk (hh | hh)
          · exact .inr (.inl hh)
          · exact .inr (.inr (hown2.out k hh hk)))
        have hown' : ∀ g, (Value.slice q (rs.length + j + 1) kq).ownBlock = some g → g < w.heap.size → lv.ownBlock = some g := by
          intro g hg hlt'
          cases q with
          | none => simp [Value.ownBlock] at hg
          | some q0 =>
            simp only [Value.ownBlock, Option.some.injEq] at hg
            rcases T5.out q0 rfl with hh | hh
            · rw [hg] at hh; exact hown2.out g hh hlt'
            · have y1 := hfr.out.size
              have y2' := G5.out.size
              simp at hh
              omega
        have L7 : Hid (QLogV (w6.setCell ⟨p, 2, none⟩ (.slice q (rs.length + j + 1) kq)) base p g s (.slice q (rs.length + j + 1) kq) (rs ++ new.take (j + 1))) := Lib.hid ⟨hbp, by simpa using z7, or7⟩
        have HQD' := Lib.hid hqd'
        have HQF' := Lib.hid hqf'
        have HFR' := Lib.hid hfr'
        have HOWN' := Lib.hid hown'
        clear F5 z6 o6 hov6 F7 ntp or7 z7 F8 hqd' hqf' hfr' hown' hnF
        go_wp2_with fail
        go_roundg (new.length - (j + 1))
        case measure => omega
        case rel => exact ⟨j + 1, _, by omega, by omega, by simp, L7, HQD', HQF', HFR', HOWN'⟩
    · have hjn : j = new.length := by omega
      rw [hjn, List.take_length] at hlg
      go_wp2_with fail
      go_ret
      exact ⟨rfl, hqd.out, hqf.out, ⟨lj, hlg.out, hown.out⟩, hfr.out⟩
end Go.Proofs.YtpnlcogbahjnoaaGreat.F
