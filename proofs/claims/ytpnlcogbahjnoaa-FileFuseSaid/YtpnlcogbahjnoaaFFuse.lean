/- FileFuse answers true, walked. Conditions stand at each theorem. -/
import Derived.Test.YtpnlcogbahjnoaaFBoth
import Derived.Test.YtpnlcogbahjnoaaOne
import Derived.Deep.CutBlock
import Derived.Deep.CutRange
namespace Go.Proofs.Ytpnlcogbahjnoaa.F
open Go.RowKit Go.Proofs.Ytpnlcogbahjnoaa.M
set_option linter.unusedVariables false

theorem and63 (x : Int) : ∃ n : Nat, n ≤ 63 ∧ bits .and .i64 x 63 = n := by
  have h3 : ((BitVec.ofInt 64 x) &&& BitVec.ofInt 64 63).toNat ≤ 63 := by
    rw [BitVec.toNat_and]
    exact Nat.and_le_right
  refine ⟨((BitVec.ofInt 64 x) &&& BitVec.ofInt 64 63).toNat, h3, ?_⟩
  show IntKind.i64.wrap (((BitVec.ofInt 64 x &&& BitVec.ofInt 64 63).toNat : Nat) : Int) = _
  exact IntWalk.i64_in _ (by omega)

set_option maxRecDepth 100000 in
set_option maxHeartbeats 4000000 in
theorem fuse_yes (W : World) (l : Value) (n : Nat) (hl : FDeeds W l n) (x : Int) :
    Calls Try.prog 9 #[l, .int .i64 x] W fun e w' => e = .returned (.bool true) ∧ Below W.heap.size W w' := by
  obtain ⟨la, lcap, rfl, hlc, hlm⟩ := hl.shape
  obtain ⟨p, hp, hbits⟩ := and63 x
  have HL := Lib.hid hl
  clear hl
  go_enter Try.func9, Try.ntmps9
  go_wp2_with fail
  refine (awake12_yes _).mono ?_
  rintro e w0 ⟨rfl, hb0⟩
  have HB0 := Lib.hid hb0
  clear hb0
  go_wp2_with fail
  refine (room_any W w0 HB0.out _ n HL.out).mono ?_
  rintro e w0' ⟨⟨r, rfl, hroom⟩, rfl⟩
  cases r with
  | false =>
    go_wp2_with fail
    go_ret
    exact ⟨rfl, HB0.out⟩
  | true =>
    obtain ⟨hn200, hsm⟩ := hroom rfl
    have HS := Lib.hid hsm
    clear hsm hroom
    go_wp2_with fail
    refine (new_any w0').mono ?_
    rintro e w1 ⟨f, b, rfl, hf0, hb0, h1, hb1⟩
    have HF1 := Lib.hid h1
    have HB1 := Lib.hid hb1
    clear h1 hb1
    go_wp2_with fail
    refine (new_any w1).mono ?_
    rintro e w2 ⟨g, b', rfl, hg0, hb'0, h2, hb2⟩
    have HF2 := Lib.hid h2
    have HB2 := Lib.hid hb2
    clear h2 hb2
    go_wp2_with fail
    refine (fuse_on w2 f b 0 _ 0 (-1) p (HF1.out.below HB2.out)).mono ?_
    rintro e w3 ⟨rfl, h3, hf3⟩
    have hfl : f < w1.heap.size := lt_of_obj HF1.out.at_
    have hbl : b < w1.heap.size := by obtain ⟨D, hD, _⟩ := HF1.out.map; exact World.ownsMap.lt hD
    have hs0 := HB0.out.size
    have hs1 := HB1.out.size
    have hj : J W w3 f b g b' 0 p (fun _ => none) 0 0 0 := {
      low := (HB0.out.trans ((HB1.out.mono hs0).trans (HB2.out.mono (Nat.le_trans hs0 hs1)))).trans (hf3.below (by have := HB2.out.size; omega) (by rintro k rfl; omega))
      fN := by omega
      bN := by omega
      gN := by omega
      b'N := by omega
      ne := by omega
      ne' := by omega
      ff := by have e : ((p : Int) - 0) = p := by omega
               rw [e]; exact h3
      gg := HF2.out.fr hf3 (by omega) (by omega) (by rintro k rfl; exact Tag.not (HF1.out.below HB2.out).at_ (by decide))
      s0 := by omega
      s1 := by omega
      n1 := by omega
      m1 := by omega
      m2 := by omega
      len := fun k => by simp [cb] }
    have HJ := Lib.hid hj
    clear hj h3 hf3 HF1 HF2 HB1 HB2 hf0 hb0 hg0 hb'0 hfl hbl hs0 hs1 HB0
    go_wp2_with fail
    go_loopg [7] n (fun k i wr => ∃ j : Nat, j ≤ n ∧ k + j = n ∧ i = .int .i64 j ∧ ∃ C m m' st, J W wr f b g b' j p C m m' st)
    case atStart => exact ⟨0, by omega, by omega, rfl, _, _, _, _, HJ.out⟩
    case round =>
      obtain ⟨j, hj, hk, rfl, C, m, m', st, hJ⟩ := hrel
      have HJ := Lib.hid hJ
      clear hJ
      by_cases hlt : j < n
      · obtain ⟨x, ⟨gg, o, hix, hok, hg, hcell⟩, hsm⟩ := HS.out j hlt
        obtain ⟨c0, c1, c2, c3, c4, c5⟩ := six_cells hcell
        obtain ⟨hcc, hff⟩ := bcell HJ.out.low
        have e0 := (hcc gg o hg).trans c0
        have e1 := (hcc gg (o + 1) hg).trans c1
        have e2 := (hcc gg (o + 2) hg).trans c2
        have e3 := (hcc gg (o + 3) hg).trans c3
        have e4 := (hcc gg (o + 4) hg).trans c4
        have e5 := (hcc gg (o + 5) hg).trans c5
        obtain ⟨va, vcap, hve, hv1, hv2⟩ := hok.1.shape
        obtain ⟨na, ncap, hne, hn1, hn2⟩ := hok.2.1.shape
        obtain ⟨hbv, -, hns, hto, -, -⟩ := hok
        obtain ⟨xd, xn, xname, xto, xbv, xbs, xnv, xns⟩ := x
        obtain ⟨hs1, hs2, hs3⟩ := hsm
        simp only at hve hne e0 e1 e2 e3 e4 e5 hns hto hs1 hs2 hs3 hbv
        subst hve
        subst hne
        have HBV := Lib.hid hbv
        have HNS := Lib.hid hns
        have HTO := Lib.hid hto
        clear hcc hff c0 c1 c2 c3 c4 c5 hcell hbv hns hto
        go_wp2_with fail
        have hz : Zat _ wr.heap.size ⟨xd, xn, xname, xto, .slice va xbs.length vcap, xbs, .slice na xns.length ncap, xns⟩ := heap_alloc_new wr (.cells #[.int .i64 xd, .int .i64 xn, .string xname, .string xto, .slice va xbs.length vcap, .slice na xns.length ncap] 62)
        have hj6 := HJ.out.quiet ((Below.refl _ wr).alloc (Nat.le_refl _) (.cells #[.int .i64 xd, .int .i64 xn, .string xname, .string xto, .slice va xbs.length vcap, .slice na xns.length ncap] 62))
        generalize wr.alloc (.cells #[.int .i64 xd, .int .i64 xn, .string xname, .string xto, .slice va xbs.length vcap, .slice na xns.length ncap] 62) = w6 at *
        generalize wr.heap.size = z at *
        clear HJ e0 e1 e2 e3 e4 e5
        have HJ := Lib.hid hj6
        have cz0 := cell_at hz 0
        have cz1 := cell_at hz 1
        have cz2 := cell_at hz 2
        have cz3 := cell_at hz 3
        have cz4 := cell_at hz 4
        simp [FDeed.cells] at cz0 cz1 cz2 cz3 cz4
        have HZ := Lib.hid hz
        clear hj6 hz
        refine (steps_any _ f b _ _ _ _ _ HJ.out.ff).mono ?_
        rintro e w7 ⟨rfl, rfl⟩
        go_upto_block 2 with fail
        have hlen := HJ.out.len
        have hLEN := Lib.hid hlen
        clear hlen
        go_cut [9, 10] from 30 to 144 (fun s9 s10 wx => ∃ e1 e2 : Int, s9 = .int .i64 e1 ∧ s10 = .int .i64 e2 ∧ Hid (Out W wx f b g b' (j + 1) p st e1 e2))
        case first =>
          by_cases h3 : xd ≤ 3
          · obtain ⟨E, hE, hD⟩ := app_both W C xname HNS.out (500 * j) hLEN.out (by omega) (.slice va xbs.length vcap) xbs HBV.out hs1
            have HE := Lib.hid hE
            have HD := Lib.hid hD
            clear hE hD
            go_upto_region 18 with fail
            go_region_held3 (fun w' => w'.cell? ⟨z, 2, none⟩ = some (.string xname) ∧ w'.cell? ⟨z, 4, none⟩ = some (.slice va xbs.length vcap)) (simp [*]) (first | (go_at_call 29; refine HC7.out.mono ?_; rintro e w8 ⟨e2, rfl, hz8, ho8⟩; have HO8 := Lib.hid ho8; have cw2 := cell_at hz8 2; have cw4 := cell_at hz8 4; simp [FDeed.cells] at cw2 cw4; clear hz8 ho8) | (go_at_call 29; refine (joint (HJ.out.quiet (below_drewN (Below.refl _ w6) 1)) (by omega) HD.out HE.out (HZ.out.below (below_drewN (Below.refl _ w6) 1))).mono ?_; rintro e w7 ⟨e1, rfl, hz7, hc⟩; have HC7 := Lib.hid hc; have cy2 := cell_at hz7 2; have cy4 := cell_at hz7 4; simp [FDeed.cells] at cy2 cy4; clear hz7 hc))
            go_wp2_with fail
            go_meet
            case rel => exact ⟨e1, e2, rfl, rfl, HO8.out.out⟩
          by_cases h4 : xd ≤ 5
          · obtain ⟨E, hE, hD⟩ := syn_both W C xname HNS.out (500 * j) hLEN.out (by omega)
            have HE := Lib.hid hE
            have HD := Lib.hid hD
            clear hE hD
            go_upto_region 20 with fail
            go_region_held3 (fun w' => w'.cell? ⟨z, 2, none⟩ = some (.string xname)) (simp [*]) (first | (go_at_call 30; refine HC7.out.mono ?_; rintro e w8 ⟨e2, rfl, hz8, ho8⟩; have HO8 := Lib.hid ho8; have cw2 := cell_at hz8 2; simp [FDeed.cells] at cw2; clear hz8 ho8) | (go_at_call 30; refine (joint (HJ.out.quiet (below_drewN (Below.refl _ w6) 1)) (by omega) HD.out HE.out (HZ.out.below (below_drewN (Below.refl _ w6) 1))).mono ?_; rintro e w7 ⟨e1, rfl, hz7, hc⟩; have HC7 := Lib.hid hc; have cy2 := cell_at hz7 2; simp [FDeed.cells] at cy2; clear hz7 hc))
            go_wp2_with fail
            go_meet
            case rel => exact ⟨e1, e2, rfl, rfl, HO8.out.out⟩
          by_cases h5 : xd = 6
          · obtain ⟨E, hE, hD⟩ := tru_both W C xname HNS.out (500 * j) hLEN.out (by omega) xn
            have HE := Lib.hid hE
            have HD := Lib.hid hD
            clear hE hD
            go_upto_region 22 with fail
            go_region_held3 (fun w' => w'.cell? ⟨z, 1, none⟩ = some (.int .i64 xn) ∧ w'.cell? ⟨z, 2, none⟩ = some (.string xname)) (simp [*]) (first | (go_at_call 24; refine HC7.out.mono ?_; rintro e w8 ⟨e2, rfl, hz8, ho8⟩; have HO8 := Lib.hid ho8; have cw1 := cell_at hz8 1; have cw2 := cell_at hz8 2; simp [FDeed.cells] at cw1 cw2; clear hz8 ho8) | (go_at_call 24; refine (joint (HJ.out.quiet (below_drewN (Below.refl _ w6) 1)) (by omega) HD.out HE.out (HZ.out.below (below_drewN (Below.refl _ w6) 1))).mono ?_; rintro e w7 ⟨e1, rfl, hz7, hc⟩; have HC7 := Lib.hid hc; have cy1 := cell_at hz7 1; have cy2 := cell_at hz7 2; simp [FDeed.cells] at cy1 cy2; clear hz7 hc))
            go_wp2_with fail
            go_meet
            case rel => exact ⟨e1, e2, rfl, rfl, HO8.out.out⟩
          by_cases h6 : xd = 7
          · obtain ⟨E, hE, hD⟩ := ren_both W C xname HNS.out (500 * j) hLEN.out (by omega) xto HTO.out
            have HE := Lib.hid hE
            have HD := Lib.hid hD
            clear hE hD
            go_upto_region 24 with fail
            go_region_held3 (fun w' => w'.cell? ⟨z, 2, none⟩ = some (.string xname) ∧ w'.cell? ⟨z, 3, none⟩ = some (.string xto)) (simp [*]) (first | (go_at_call 34; refine HC7.out.mono ?_; rintro e w8 ⟨e2, rfl, hz8, ho8⟩; have HO8 := Lib.hid ho8; have cw2 := cell_at hz8 2; have cw3 := cell_at hz8 3; simp [FDeed.cells] at cw2 cw3; clear hz8 ho8) | (go_at_call 34; refine (joint (HJ.out.quiet (below_drewN (Below.refl _ w6) 1)) (by omega) HD.out HE.out (HZ.out.below (below_drewN (Below.refl _ w6) 1))).mono ?_; rintro e w7 ⟨e1, rfl, hz7, hc⟩; have HC7 := Lib.hid hc; have cy2 := cell_at hz7 2; have cy3 := cell_at hz7 3; simp [FDeed.cells] at cy2 cy3; clear hz7 hc))
            go_wp2_with fail
            go_meet
            case rel => exact ⟨e1, e2, rfl, rfl, HO8.out.out⟩
          by_cases h7 : xd = 8
          · obtain ⟨E, hE, hD⟩ := rem_both W C xname HNS.out (500 * j) hLEN.out (by omega)
            have HE := Lib.hid hE
            have HD := Lib.hid hD
            clear hE hD
            go_upto_region 26 with fail
            go_region_held3 (fun w' => w'.cell? ⟨z, 2, none⟩ = some (.string xname)) (simp [*]) (first | (go_at_call 38; refine HC7.out.mono ?_; rintro e w8 ⟨e2, rfl, hz8, ho8⟩; have HO8 := Lib.hid ho8; have cw2 := cell_at hz8 2; simp [FDeed.cells] at cw2; clear hz8 ho8) | (go_at_call 38; refine (joint (HJ.out.quiet (below_drewN (Below.refl _ w6) 1)) (by omega) HD.out HE.out (HZ.out.below (below_drewN (Below.refl _ w6) 1))).mono ?_; rintro e w7 ⟨e1, rfl, hz7, hc⟩; have HC7 := Lib.hid hc; have cy2 := cell_at hz7 2; simp [FDeed.cells] at cy2; clear hz7 hc))
            go_wp2_with fail
            go_meet
            case rel => exact ⟨e1, e2, rfl, rfl, HO8.out.out⟩
          go_wp2_with fail
          go_meet
          case rel => exact ⟨0, 0, rfl, rfl, .inl ⟨rfl, _, _, _, _, HJ.out.next⟩⟩
        case rest =>
          obtain ⟨e1, e2, rfl, rfl, ho⟩ := hcut
          rcases ho.out with ⟨rfl, C', m1, m2, st', hJ'⟩ | ⟨rfl, hst, hdie⟩
          · have HJ' := Lib.hid hJ'
            clear hJ' ho
            go_wp2_with fail
            refine (dead_any _ f b _ _ _ _ _ HJ'.out.ff).mono ?_
            rintro e w8 ⟨rfl, rfl⟩
            go_wp2_with fail
            refine (steps_any _ f b _ _ _ _ _ HJ'.out.ff).mono ?_
            rintro e w8 ⟨rfl, rfl⟩
            go_wp2_with fail
            refine (steps_any _ g b' _ _ _ _ _ HJ'.out.gg).mono ?_
            rintro e w8 ⟨rfl, rfl⟩
            go_wp2_with fail
            go_roundg (n - (j + 1))
            case measure => omega
            case rel => exact ⟨j + 1, by omega, by omega, by simp, _, _, _, _, HJ'.out⟩
          · obtain ⟨hlow, m1, C', fu, hfd⟩ := hdie
            subst hst
            have HFD := Lib.hid hfd
            have HLOW := Lib.hid hlow
            have hwr : IntKind.i64.wrap ((p : Int) + 1) = p + 1 := IntWalk.i64_in _ (by omega)
            clear hfd hlow ho
            go_wp2_with fail
            refine (dead_any _ f b _ _ _ _ _ HFD.out).mono ?_
            rintro e w8 ⟨rfl, rfl⟩
            go_wp2_with fail
            refine (steps_any _ f b _ _ _ _ _ HFD.out).mono ?_
            rintro e w8 ⟨rfl, rfl⟩
            go_wp2_with fail
            refine (append_dead _ f b _ _ _ _ HFD.out _ _).mono ?_
            rintro e w8 ⟨rfl, rfl⟩
            go_wp2_with fail
            go_ret
            exact ⟨rfl, HLOW.out⟩
      · have hjn : j = n := by omega
        subst hjn
        go_wp2_with fail
        refine (steps_any _ f b _ _ _ _ _ HJ.out.ff).mono ?_
        rintro e w4 ⟨rfl, rfl⟩
        have hs := HJ.out.s1
        go_wp2_with fail
        go_ret
        exact ⟨by simp, HJ.out.low⟩
end Go.Proofs.Ytpnlcogbahjnoaa.F
