/- RecordPlays answers true, walked. Conditions stand at each theorem. -/
import Derived.Test.YtpnlcogbahjnoaaGreatJoint
import Derived.Deep.CutBlock
import Derived.Deep.CutRange
namespace Go.Proofs.YtpnlcogbahjnoaaGreat.F
open Go.RowKit Go.Proofs.YtpnlcogbahjnoaaGreat.M
set_option linter.unusedVariables false

theorem LLs.old {w w' : World} {v : Value} {ls : List (List (List UInt8))} (h : LLs w v ls) (hb : Below w.heap.size w w') : LLs w' v ls := by
  obtain ⟨vs, h1, h2, h3⟩ := h
  exact ⟨vs, h1.below hb, h2, fun i l hi => by obtain ⟨u, g1, g2⟩ := h3 i l hi; exact ⟨u, g1, g2.below hb⟩⟩

theorem PJ.mono {W w : World} {f b p g h o cap q : Nat} {fu st : Int} {dead : Bool} {M M' : Nat} {x : List UInt8} {l : Nat} {rs : List (List UInt8)} (J : PJ W w f b p g h o cap q fu st dead M x l rs) (hM : M ≤ M') : PJ W w f b p g h o cap q fu st dead M' x l rs := by
  obtain ⟨m, hm, hF⟩ := J.disk
  have := J.stM
  exact { J with disk := ⟨m, by omega, hF⟩, stM := by omega }

set_option maxRecDepth 100000 in
set_option maxHeartbeats 2000000 in
theorem plays_yes (W : World) (v0 v1 v2 : Value) (ls : List (List (List UInt8))) (fs ks : List Int) (h : LLs W v0 ls) (h1 : IntsV W v1 fs) (h2 : IntsV W v2 ks) :
    Calls Tryz.prog 3 #[v0, v1, v2] W fun e w' => e = .returned (.bool true) ∧ Below W.heap.size W w' := by
  obtain ⟨a0, cap0, rfl, hc0, hm0⟩ := h.shape
  obtain ⟨a1, cap1, rfl, hc1, hm1⟩ := h1.shape
  obtain ⟨a2, cap2, rfl, hc2, hm2⟩ := h2.shape
  have HL := Lib.hid h
  have HF := Lib.hid h1
  have HK := Lib.hid h2
  clear h h1 h2
  go_enter Tryz.func3, Tryz.ntmps3
  go_wp2_with fail
  refine (awake13_yes W).mono ?_
  rintro e w0 ⟨rfl, hb0⟩
  have B0 := Lib.hid hb0
  have HL0 : Hid (LLs w0 (.slice a0 ls.length cap0) ls) := Lib.hid (HL.out.old hb0)
  clear hb0
  go_wp2_with fail
  refine (roomR_any w0 _ ls HL0.out).mono ?_
  rintro e w0' ⟨⟨r, rfl, hroom⟩, rfl⟩
  cases r with
  | false =>
    go_wp2_with fail
    go_ret
    exact ⟨rfl, B0.out⟩
  | true =>
    obtain ⟨h100, hsm⟩ := hroom rfl
    have HSM := Lib.hid hsm
    clear hroom hsm HL0
    by_cases hf100 : 100 < fs.length
    · go_wp2_with fail
      go_ret
      exact ⟨rfl, B0.out⟩
    by_cases hk100 : 100 < ks.length
    · go_wp2_with fail
      go_ret
      exact ⟨rfl, B0.out⟩
    go_wp2_with fail
    refine (new_any w0').mono ?_
    rintro e w1 ⟨f, b, rfl, hf0, hb0, h1, hb1⟩
    have H1 := Lib.hid h1
    have B1 := Lib.hid (B0.out.trans (hb1.mono B0.out.size))
    have hf0 : W.heap.size ≤ f := Nat.le_trans B0.out.size hf0
    have hb0 : W.heap.size ≤ b := Nat.le_trans B0.out.size hb0
    clear h1 hb1
    go_wp2_with fail
    refine (qnew_any w1).mono ?_
    rintro e w2 ⟨rfl, hd2, hb2⟩
    have H2 := Lib.hid (H1.out.below hb2)
    have HD2 := Lib.hid hd2
    have B2 := Lib.hid (B1.out.trans (hb2.mono B1.out.size))
    have hg0 := B1.out.size
    clear hd2 hb2 H1
    generalize w1.heap.size = g at *
    go_wp2_with fail
    refine (pj_create B2.out hf0 hb0 hg0 H2.out HD2.out).mono ?_
    rintro e w3 ⟨p, rfl, low3, hA⟩
    clear H2 HD2 B2 B1
    go_wp2_with fail
    refine hA.out.mono ?_
    rintro e w4 ⟨q, hh, o, cap, rfl, hJ⟩
    have HJ := Lib.hid hJ
    clear hJ hA low3
    go_wp2_with fail
    go_loopg [7, 8, 9, 11, 13] ls.length (fun k s7 s8 s9 s11 s13 wr => ∃ (i f b p g h o cap q : Nat) (fu st : Int) (cs : List (List (List UInt8))), s7 = .pointer (some ⟨f, 0, none⟩) ∧ s8 = .pointer (some ⟨g, 0, none⟩) ∧ s9 = .pointer (some ⟨p, 0, none⟩) ∧ s11 = .pointer (some ⟨q, 0, none⟩) ∧ s13 = .int .i64 i ∧ i ≤ ls.length ∧ k + i = ls.length ∧ cs.length ≤ i ∧ Hid (PJ W wr f b p g h o cap q fu st false (4 * i + 2) (fileOf cs) (fileOf cs).length cs.flatten) ∧ Hid (∀ l ∈ cs, Small l))
    case atStart => exact ⟨0, f, b, p, g, hh, o, cap, q, -1, 2, [], rfl, rfl, rfl, rfl, rfl, by omega, by omega, by simp, by simpa [fileOf] using HJ, Lib.hid (by simp)⟩
    case round =>
      clear HJ hf0 hb0 hg0
      obtain ⟨i, f, b, p, g, h, o, cap, q, fu, st, cs, rfl, rfl, rfl, rfl, rfl, hi, hk, hci, hj, hcs⟩ := hrel
      by_cases hlt : i < ls.length
      · have hli : i < 100 := by omega
        go_upto_if 59 with fail
        generalize hbb : decide (i < fs.length) = bb at *
        go_cut [60] from 60 to 71 (fun s60 wx => ∃ fu' : Int, Hid (PJ W wx f b p g h o cap q fu' st false (4 * i + 2) (fileOf cs) (fileOf cs).length cs.flatten))
        case first =>
          cases bb with
          | true =>
            have hif : i < fs.length := of_decide_eq_true hbb
            clear hbb
            obtain ⟨g3, o3, hix3, hcell3, hlt3⟩ := ints_ix HF.out i hif
            have hb3 := HF.out.2 fs[i] (List.getElem_mem hif)
            have c3 := ((bcell hj.out.low).1 g3 o3 hlt3).trans hcell3
            generalize fs[i] = n3 at *
            have HC3 := Lib.hid hcell3
            clear hcell3
            go_wp2_with fail
            refine (pj_fuse hj.out n3 hb3.2).mono ?_
            rintro e w1 ⟨rfl, low1, hA⟩
            have c3' := ((bcell low1).1 g3 o3 hlt3).trans HC3.out
            clear low1 c3
            go_wp2_with fail
            refine hA.out.mono ?_
            rintro e w2 ⟨rfl, hj2⟩
            have HJ2 := Lib.hid hj2
            clear hj2 hA c3'
            go_wp2_with fail
            go_meet
            case rel => exact ⟨n3, HJ2⟩
          | false =>
            clear hbb
            go_wp2_with fail
            go_meet
            case rel => exact ⟨fu, hj⟩
        case rest =>
          clear hj
          obtain ⟨fu', hj⟩ := hcut
          obtain ⟨g4, o4, u, hix, hcell, hru⟩ := lls_ix HL.out i hlt
          have hc0 := ((bcell hj.out.low).1 g4 o4 (World.block_lt_of_cell? W _ hcell)).trans hcell
          obtain ⟨ua, ucap, hue, hu1, hu2⟩ := hru.shape
          have hgW := World.block_lt_of_cell? W _ hcell
          have hsl : Small ls[i] := HSM.out _ (List.getElem_mem hlt)
          have HSL := Lib.hid hsl
          have HRU := Lib.hid hru
          have HCL := Lib.hid hcell
          clear hcell hru hsl
          generalize ls[i] = l at *
          subst hue
          go_wp2_with fail
          refine (pj_app hj.out (by omega) hcs.out (by omega) _ l HSL.out HRU.out).mono ?_
          rintro e w4 ⟨E, rfl, low4, hA⟩
          have hc4 := ((bcell low4).1 g4 o4 hgW).trans HCL.out
          clear low4 hc0 hj
          go_wp2_with fail
          refine hA.out.mono ?_
          rintro e w5 ⟨rfl, hpa⟩
          obtain ⟨fu5, st5, dead, x5, l5, rs, hj5, hx5, hok, hcase⟩ := hpa
          obtain ⟨m5, hm5, hF5⟩ := hj5.disk
          obtain ⟨lv, lv', hlv, hqlv, -⟩ := hj5.logs
          obtain ⟨la, lk, rfl, hlk1, hlk2⟩ := hqlv.2.2.shape
          have q2 := cell_at hqlv.2.1 2
          simp at q2
          obtain ⟨-, g1, -, -⟩ := hj5.qd.cells
          have hql := lt_of_obj hqlv.2.1
          have hgl := lt_of_obj hj5.qd
          have HLA := Lib.hid hlv.at_
          have HQR := Lib.hid hqlv.2.2.recs
          have HF5 := Lib.hid hF5
          have HJ5 := Lib.hid hj5
          have HOK := Lib.hid hok
          have HX5 := Lib.hid hx5
          have HCASE := Lib.hid hcase
          clear hA hc4 hj5 hx5 hok hcase hF5 hlv hqlv
          go_upto_region 19 with fail
          go_region_held3 (fun w' => w'.cell? ⟨q, 2, none⟩ = some (.slice la rs.length lk) ∧ w'.cell? ⟨g, 1, none⟩ = some (.int .i64 st5)) (simp [*]) (first | (go_at_call 15; refine (all_any _ _ p f _ rs (HLA.out.below (below_drewN (Below.refl _ w5) 1)) HOK.out.1 HOK.out.2).mono ?_; rintro e w6 ⟨v6, rfl, hv6, hb6⟩; obtain ⟨va6, vk6, rfl, hva6, hvk6⟩ := hv6.shape; have g6 : Below w5.heap.size w5 w6 := (below_drewN (Below.refl _ w5) 1).trans hb6; have q6 := ((bcell g6).1 q 2 hql).trans q2; have z6 := ((bcell g6).1 g 1 hgl).trans g1; have HV6 := Lib.hid hv6; have G6 := Lib.hid g6; clear hv6 hb6 g6) | (go_at_call 14; have hsame := sameR_any w6 _ _ rs rs HV6.out.recs (HQR.out.below G6.out); rw [decide_eq_true rfl] at hsame; refine hsame.mono ?_; rintro e w7 ⟨rfl, n7, rfl⟩; have q7 : (w6.drewN n7).cell? ⟨q, 2, none⟩ = some (.slice la rs.length lk) := q6; have z7 : (w6.drewN n7).cell? ⟨g, 1, none⟩ = some (.int .i64 st5) := z6; clear hsame) | (go_at_call 16; refine (len_any _ _ p f _ rs (HLA.out.below (below_drewN G6.out n7))).mono ?_; rintro e w8 ⟨rfl, rfl⟩) | (go_at_call 17; refine (steps_any _ f b m5 _ st5 fu5 dead (HF5.out.below (below_drewN G6.out n7))).mono ?_; rintro e w8 ⟨rfl, rfl⟩))
          clear q2 g1 q6 z6 q7 z7
          generalize hw7 : w6.drewN n7 = w7 at *
          have HJ7 : Hid (PJ W w7 f b p g h o cap q fu5 st5 dead (4 * i + 2 + 2) x5 l5 rs) := Lib.hid (by rw [← hw7]; exact HJ5.out.below (below_drewN G6.out n7))
          clear hw7 HJ5 G6 HV6 HLA HQR HF5
          obtain ⟨m7, hm7, hF7⟩ := HJ7.out.disk
          have hle7 := holds_le' hF7
          have HF7 := Lib.hid hF7
          have HCN : Hid (∀ l' ∈ cs ++ [l], Small l') := Lib.hid (by
            intro l' hl'
            rcases List.mem_append.1 hl' with hl' | hl'
            · exact hcs.out l' hl'
            · obtain rfl : l' = l := by simpa using hl'
              exact HSL.out)
          have hlen1 : (cs ++ [l]).length = cs.length + 1 := by simp
          have hfo := fileOf_len (cs ++ [l]) HCN.out
          rw [hlen1] at hfo
          clear hF7
          go_wp2_with fail
          refine (dead_any w7 f b m7 _ st5 fu5 dead HF7.out).mono ?_
          rintro e w8 ⟨rfl, rfl⟩
          cases dead with
          | false =>
            have HJN : Hid (PJ W w7 f b p g h o cap q fu5 st5 false (4 * (i + 1) + 2) (fileOf (cs ++ [l])) (fileOf (cs ++ [l])).length (cs ++ [l]).flatten) := Lib.hid (by
              rcases HCASE.out with ⟨-, e1, e2⟩ | ⟨hd, -⟩
              · have := HJ7.out.mono (M' := 4 * (i + 1) + 2) (by omega)
                rw [e1, e2, HX5.out] at this
                exact this
              · cases hd)
            clear HJ7 HF7 HCASE HX5 HOK
            go_wp2_with fail
            go_roundg (ls.length - (i + 1))
            case measure => omega
            case rel => exact ⟨i + 1, f, b, p, g, h, o, cap, q, fu5, st5, cs ++ [l], rfl, rfl, rfl, rfl, by simp, by omega, by omega, by omega, HJN, HCN⟩
          | true =>
            have hx5 := HX5.out
            subst hx5
            clear HF7 HCASE HX5 HOK
            go_upto_if 122 with fail
            generalize hbk : decide (i < ks.length) = bk at *
            go_cut [7, 8] from 123 to 136 (fun s7 s8 wx => ∃ f' b' g' n : Nat, s7 = .pointer (some ⟨f', 0, none⟩) ∧ s8 = .pointer (some ⟨g', 0, none⟩) ∧ n ≤ (fileOf (cs ++ [l])).length ∧ Hid (CJ W wx f' b' g' (4 * i + 2 + 2) ((fileOf (cs ++ [l])).take n) n))
            case first =>
              cases bk with
              | true =>
                have hik : i < ks.length := of_decide_eq_true hbk
                clear hbk
                have hne2 : ¬ cap2 = i := by omega
                have hiv := ints_add HK.out i (by omega)
                have hdl : (ks.drop i).length = ks.length - i := by simp
                have hrd := hiv.1
                rw [hdl] at hrd
                have HIV := Lib.hid hiv
                clear hrd hiv hdl
                go_wp2_with fail
                refine (pj_crash HJ7.out (by omega) (by omega) _ (ks.drop i) HIV.out.1 HIV.out.2).mono ?_
                rintro e w9 ⟨f', b', rfl, low9, hA⟩
                clear low9
                go_wp2_with fail
                refine hA.out.mono ?_
                rintro e w10 ⟨g', rfl, hC⟩
                have HC := Lib.hid hC
                have hnn := cutN_le (ks.drop i) 0 (fileOf (cs ++ [l])) l5 hle7
                clear hC hA
                go_wp2_with fail
                go_meet
                case rel => exact ⟨f', b', g', _, rfl, rfl, hnn, HC⟩
              | false =>
                clear hbk
                go_wp2_with fail
                refine (pj_crash HJ7.out (by omega) (by omega) _ [] (Reads.nil _ _) (by simp)).mono ?_
                rintro e w9 ⟨f', b', rfl, low9, hA⟩
                clear low9
                go_wp2_with fail
                refine hA.out.mono ?_
                rintro e w10 ⟨g', rfl, hC⟩
                have HC := Lib.hid hC
                have hnn := cutN_le [] 0 (fileOf (cs ++ [l])) l5 hle7
                clear hC hA
                go_wp2_with fail
                go_meet
                case rel => exact ⟨f', b', g', _, rfl, rfl, hnn, HC⟩
            case rest =>
              obtain ⟨f', b', g', n, rfl, rfl, hn, hC⟩ := hcut
              clear HJ7
              go_wp2_with fail
              refine (pj_open hC.out (by omega) HCN.out (by omega) hn).mono ?_
              rintro e w9 ⟨p', rfl, low9, hA⟩
              clear low9 hC
              go_wp2_with fail
              refine hA.out.mono ?_
              rintro e w10 ⟨q', rfl, hP⟩
              obtain ⟨h', o', cap', st', cs', hj10, hl10, hsm10⟩ := hP
              have hok10 := rsok hsm10 (by omega)
              obtain ⟨lv, lv', hlv, hqlv, -⟩ := hj10.logs
              obtain ⟨la', lk', rfl, hlk1', hlk2'⟩ := hqlv.2.2.shape
              have q10 := cell_at hqlv.2.1 2
              simp only [List.getElem?_toArray, List.getElem?_cons_succ, List.getElem?_cons_zero] at q10
              have hql' := lt_of_obj hqlv.2.1
              have HLA := Lib.hid hlv.at_
              have HQR := Lib.hid hqlv.2.2.recs
              have HJ10 := Lib.hid hj10
              have HOK10 := Lib.hid hok10
              have HSM10 := Lib.hid hsm10
              clear hA hj10 hok10 hsm10 hlv hqlv
              generalize hrs : cs'.flatten = rs' at *
              go_upto_region 29 with fail
              go_region_held3 (fun w' => w'.cell? ⟨q', 2, none⟩ = some (.slice la' rs'.length lk')) (simp [*]) (first | (go_at_call 15; refine (all_any _ _ p' f' _ rs' (HLA.out.below (below_drewN (Below.refl _ w10) 1)) HOK10.out.1 HOK10.out.2).mono ?_; rintro e w11 ⟨v11, rfl, hv11, hb11⟩; obtain ⟨va11, vk11, rfl, hva11, hvk11⟩ := hv11.shape; have g11 : Below w10.heap.size w10 w11 := (below_drewN (Below.refl _ w10) 1).trans hb11; have q11 := ((bcell g11).1 q' 2 hql').trans q10; have HV11 := Lib.hid hv11; have G11 := Lib.hid g11; clear hv11 hb11 g11) | (go_at_call 14; have hsame := sameR_any w11 _ _ rs' rs' HV11.out.recs (HQR.out.below G11.out); rw [decide_eq_true rfl] at hsame; refine hsame.mono ?_; rintro e w12 ⟨rfl, n12, rfl⟩; have q12 : (w11.drewN n12).cell? ⟨q', 2, none⟩ = some (.slice la' rs'.length lk') := q11; clear hsame))
              have HJ12 : Hid (PJ W (w11.drewN n12) f' b' p' g' h' o' cap' q' (-1) st' false (4 * (i + 1) + 2) (fileOf cs') (fileOf cs').length cs'.flatten) := Lib.hid (by
                have := (HJ10.out.below (below_drewN G11.out n12)).mono (M' := 4 * (i + 1) + 2) (by omega)
                rw [hrs]
                exact this)
              clear q10 q11 q12 HLA HQR HJ10 HOK10 HV11 G11
              generalize w11.drewN n12 = w12 at *
              go_wp2_with fail
              go_roundg (ls.length - (i + 1))
              case measure => omega
              case rel => exact ⟨i + 1, f', b', p', g', h', o', cap', q', -1, st', cs', rfl, rfl, rfl, rfl, by simp, by omega, by omega, by omega, HJ12, HSM10⟩
      · go_wp2_with fail
        go_ret
        exact ⟨rfl, hj.out.low⟩
end Go.Proofs.YtpnlcogbahjnoaaGreat.F
