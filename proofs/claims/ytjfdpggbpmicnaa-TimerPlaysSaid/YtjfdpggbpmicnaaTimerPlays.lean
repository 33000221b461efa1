/- TimerPlays answers true, walked. Conditions stand at each theorem. -/
import Derived.Test.YtjfdpggbpmicnaaDeeds
import Derived.Deep.CutBlock
import Derived.Deep.CutRange
namespace Go.Proofs.Ytjfdpggbpmicnaa.T
open Go.RowKit Go.Proofs.Ytjfdpggbpmicnaa.M
set_option linter.unusedVariables false

theorem q_due (w : World) (x b : Nat) (term wait heard now : Int) {n : Nat} (ht : TimerAt (w.drewN n) x term wait heard b) (h1 : 0 < term) (hh : 0 ≤ heard) (hh2 : heard ≤ 1099511627776) :
    Calls Try.prog 28 #[.pointer (some ⟨x, 0, none⟩), .int .i64 now] (w.drewN n) fun e w' => e = .returned (.bool (dueT wait heard now)) ∧ ∃ m, w' = w.drewN m :=
  (due_any _ x b term wait heard now ht h1 hh hh2).mono fun _ _ ⟨he, m, hm⟩ => ⟨he, n + m, by rw [hm, World.drewN_drewN]⟩
theorem q_due0 (w : World) (x b : Nat) (term wait heard now : Int) {n : Nat} (ht : TimerAt (w.drewN n) x term wait heard b) (h1 : 0 < term) (hh : 0 ≤ heard) (hh2 : heard ≤ 1099511627776) (hd : dueT wait heard now = false) :
    Calls Try.prog 28 #[.pointer (some ⟨x, 0, none⟩), .int .i64 now] (w.drewN n) fun e w' => e = .returned (.bool false) ∧ ∃ m, w' = w.drewN m := by
  rw [← hd]; exact q_due w x b term wait heard now ht h1 hh hh2
theorem q_rdue (w : World) (m u : Nat) (term wait heard now : Int) {n : Nat} (ht : RTimerAt (w.drewN n) m term wait heard u) (hh : 0 ≤ heard) (hh2 : heard ≤ 1099511627776) :
    Calls Try.prog 35 #[.pointer (some ⟨m, 0, none⟩), .int .i64 now] (w.drewN n) fun e w' => e = .returned (.bool (dueT wait heard now)) ∧ ∃ m, w' = w.drewN m :=
  (rdue_any _ m u term wait heard now ht hh hh2).mono fun _ _ ⟨he, m, hm⟩ => ⟨he, n + m, by rw [hm, World.drewN_drewN]⟩
theorem jt_start {W w1 : World} {b : Nat} (hb : W.heap.size ≤ b) (hB : Below W.heap.size W w1) (ht : TapeAt w1 b []) : JT W.heap.size W (w1.alloc (.cells #[.slice none 0 0] 48)) b w1.heap.size [] := by
  have hA : Below w1.heap.size w1 (w1.alloc (.cells #[.slice none 0 0] 48)) := (Below.refl _ _).alloc (Nat.le_refl _) _
  have hs := hB.size
  obtain ⟨sv, h1, h2, h3⟩ := ht.below hA
  exact ⟨hB.trans (hA.mono hs), hb, hs, .slice none 0 0, ⟨sv, h1, h2, fun k _ hc => (hc rfl).elim⟩, ⟨heap_alloc_new w1 _, Owns.nil _ _ _ _⟩, fun g hg => by simp [Value.ownBlock] at hg⟩

set_option maxRecDepth 100000 in
set_option maxHeartbeats 1000000 in
theorem plays_big (W : World) (term : Int) (va la : Option Addr) (cs : List UInt8) (vcap lcap n : Nat) (hvc : cs.length ≤ vcap) (hvm : vcap ≤ 9223372036854775807) (hlc : n ≤ lcap) (hlm : lcap ≤ 9223372036854775807) (hbig : 1000 < cs.length ∨ 200 < n) :
    Calls Try.prog 10 #[.int .i64 term, .slice va cs.length vcap, .slice la n lcap] W fun e w' => e = .returned (.bool true) ∧ Below W.heap.size W w' := by
  by_cases h1 : 1000 < cs.length
  · clear hbig
    go_enter Try.func10, Try.ntmps10
    go_wp2_with fail
    refine (awake_yes _).mono ?_
    rintro e w0 ⟨rfl, hb0⟩
    go_wp2_with fail
    go_ret
    exact ⟨rfl, hb0⟩
  · have h2 : 200 < n := by omega
    clear hbig
    go_enter Try.func10, Try.ntmps10
    go_wp2_with fail
    refine (awake_yes _).mono ?_
    rintro e w0 ⟨rfl, hb0⟩
    go_wp2_with fail
    go_ret
    exact ⟨rfl, hb0⟩

set_option maxRecDepth 100000 in
set_option maxHeartbeats 4000000 in
theorem plays_yes (W : World) (term : Int) (v l : Value) (cs : List UInt8) (n : Nat) (hv : Bytes W v cs) (hl : Deeds W l n) (ht1 : -9223372036854775808 ≤ term) (ht2 : term ≤ 9223372036854775807) :
    Calls Try.prog 10 #[.int .i64 term, v, l] W fun e w' => e = .returned (.bool true) ∧ Below W.heap.size W w' := by
  obtain ⟨va, vcap, rfl, hvc, hvm⟩ := hv.shape
  obtain ⟨la, lcap, rfl, hlc, hlm⟩ := hl.shape
  have HL := Lib.hid hl
  have HV := Lib.hid hv
  clear hl hv
  by_cases hbig : 1000 < cs.length ∨ 200 < n
  · exact plays_big W term va la cs vcap lcap n hvc hvm hlc hlm hbig
  have hb1 : cs.length ≤ 1000 := by omega
  have hb2 : n ≤ 200 := by omega
  go_enter Try.func10, Try.ntmps10
  go_wp2_with fail
  refine (awake_yes _).mono ?_
  rintro e w0 ⟨rfl, hb0⟩
  go_wp2_with fail
  go_loopg [7] n (fun k i wr => ∃ j : Nat, j ≤ n ∧ k + j = n ∧ i = .int .i64 j ∧ wr = w0)
  case atStart => exact ⟨0, by omega, by omega, rfl, rfl⟩
  case round =>
    obtain ⟨j, hj, hk, rfl, rfl⟩ := hrel
    by_cases hlt : j < n
    · obtain ⟨g, o, d, kk, v2, bs, hix, c0, c1, c2, hvb, hg, hd, hkk⟩ := HL.out.at j hlt
      obtain ⟨va2, vcap2, rfl, hvc2, hvm2⟩ := hvb.shape
      obtain ⟨hcc, hff⟩ := bcell hb0
      have e2 := (hcc g (o + 2) hg).trans c2
      clear hcc hff c0 c1 c2 hvb
      by_cases hl3 : 300 < bs.length
      · go_wp2_with fail
        go_ret
        exact ⟨rfl, hb0⟩
      · go_wp2_with fail
        go_roundg (n - (j + 1))
        case measure => omega
        case rel => exact ⟨j + 1, by omega, by omega, by simp, rfl⟩
    · have hjn : j = n := by omega
      subst hjn
      go_wp2_with fail
      refine (newTape_any _).mono ?_
      rintro e w1 ⟨rfl, htp, hb1'⟩
      have hB : Below W.heap.size W w1 := hb0.trans (hb1'.mono hb0.size)
      have hbN : W.heap.size ≤ wr.heap.size := hb0.size
      have hs1 := tape_lt htp
      generalize wr.heap.size = b at *
      clear hb0 hb1'
      have hj0 := jt_start hbN hB htp
      have hN1 : W.heap.size ≤ (w1.alloc (.cells #[.slice none 0 0] 48)).heap.size := by have := hB.size; simp; omega
      have HJ0 := Lib.hid hj0
      have HB0 := Lib.hid hB
      have HT0 := Lib.hid htp
      clear hj0 hB htp
      go_wp2_with fail
      generalize hu : w1.heap.size = u at *
      clear hu
      have hvN : ∀ g, (Value.slice va cs.length vcap).ownBlock = some g → cs ≠ [] → g < W.heap.size := fun g hg hc => Reads.lt HV.out (by simpa using hc) g hg
      have HN := Lib.hid hvN
      have HJ := HJ0
      clear hvN HJ0 HB0 HT0 hs1
      refine (jt_add HJ.out hN1 (HV.out.old HJ.out.low (Nat.le_refl _)) HN.out).mono ?_
      rintro e w2 ⟨r, rfl, -, -, hc⟩
      have HC := Lib.hid hc
      clear hc hN1
      go_wp2_with fail
      refine HC.out.mono ?_
      rintro e w3 ⟨rfl, -, hs3, bs1, hj1⟩
      have hN3 := hj1.low.size
      clear HC HJ hs3
      by_cases hterm : 1 ≤ term ∧ term ≤ 1048576
      · have HJ := Lib.hid hj1
        clear hj1
        obtain ⟨hterm1, hterm2⟩ := hterm
        go_wp2_with fail
        refine (j_new HJ.out hN3 hterm1 hterm2).mono ?_
        rintro e w4 ⟨x, rfl, hc⟩
        have HC := Lib.hid hc
        clear hc
        go_wp2_with fail
        refine HC.out.mono ?_
        rintro e w5 ⟨m, rfl, hN5, wait1, bs2, hJ⟩
        have HK := Lib.hid hJ
        clear HC HJ hJ hN3
        go_wp2_with fail
        go_loopg [14] j (fun k i wr => ∃ i' : Nat, i' ≤ j ∧ k + i' = j ∧ i = .int .i64 i' ∧ ∃ wait heard bs, J W.heap.size W wr x b m u term wait heard bs)
        case atStart => exact ⟨0, by omega, by omega, rfl, _, _, _, HK.out⟩
        case round =>
          obtain ⟨i', hi', hk', rfl, wait, heard, bs, hJ⟩ := hrel
          by_cases hlt : i' < j
          · obtain ⟨g, o, d, kk, v2, bs2, hix, c0, c1, c2, hvb, hg, hd, hkk⟩ := HL.out.at i' hlt
            obtain ⟨va2, vcap2, rfl, hvc2, hvm2⟩ := hvb.shape
            obtain ⟨hcc, hff⟩ := bcell hJ.jt.low
            have e0 := (hcc g o hg).trans c0
            have e1 := (hcc g (o + 1) hg).trans c1
            have e2 := (hcc g (o + 2) hg).trans c2
            have HVB := Lib.hid hvb
            have HJ := Lib.hid hJ
            clear hcc hff c0 c1 c2 hvb hJ
            go_upto_block 4 with fail
            have hz : Zat _ wr.heap.size d kk _ := heap_alloc_new wr (.cells #[.int .i64 d, .int .i64 kk, .slice va2 bs2.length vcap2] 45)
            have hj6 := HJ.out.frame (Fr.alloc (Fr.refl (fun _ => False) wr) (.cells #[.int .i64 d, .int .i64 kk, .slice va2 bs2.length vcap2] 45)) HJ.out.jt.low.size (fun _ h => h.elim)
            generalize wr.alloc (.cells #[.int .i64 d, .int .i64 kk, .slice va2 bs2.length vcap2] 45) = w6 at *
            generalize wr.heap.size = z at *
            clear HJ e0 e1 e2
            have hN6 := hj6.jt.low.size
            have HJ := Lib.hid hj6
            have cz0 := cell_at hz 0
            have cz1 := cell_at hz 1
            have cz2 := cell_at hz 2
            simp at cz0 cz1 cz2
            have HZ := Lib.hid hz
            clear hj6 hz
            go_cut [16, 17, 18] from 72 to 200 (fun s16 s17 s18 wx => s16 = .bool true ∧ Zat wx z d kk (.slice va2 bs2.length vcap2) ∧ ∃ wait heard bs, J W.heap.size W wx x b m u term wait heard bs)
            case first =>
              by_cases hd1 : d ≤ 1
              · go_wp2_with fail
                refine (j_hear HJ.out hN6 HZ.out).mono ?_
                rintro e w7 ⟨rfl, hz7, hc⟩
                have HC := Lib.hid hc
                have cy1 := cell_at hz7 1
                simp at cy1
                clear hc hz7 cz0 cz1 cz2
                go_wp2_with fail
                refine HC.out.mono ?_
                rintro e w8 ⟨rfl, hz8, hs8, heard8, hj8⟩
                go_wp2_with fail
                go_meet
                case rel => exact ⟨rfl, hz8, _, _, _, hj8⟩
              · by_cases hd3 : d ≤ 3
                · go_wp2_with fail
                  refine (j_again HJ.out hN6 HZ.out).mono ?_
                  rintro e w7 ⟨rfl, hz7, hc⟩
                  have HC := Lib.hid hc
                  have cy1 := cell_at hz7 1
                  simp at cy1
                  clear hc hz7 cz0 cz1 cz2
                  go_wp2_with fail
                  refine HC.out.mono ?_
                  rintro e w8 ⟨rfl, hz8, hs8, wait8, heard8, bs8, hj8⟩
                  go_wp2_with fail
                  go_meet
                  case rel => exact ⟨rfl, hz8, _, _, _, hj8⟩
                · by_cases hd4 : d = 4
                  · go_wp2_with fail
                    refine (j_add HJ.out hN6 HZ.out (HVB.out.old HJ.out.jt.low (Nat.le_refl _)) (fun g hg hc => Reads.lt HVB.out (by simpa using hc) g hg)).mono ?_
                    rintro e w7 ⟨r7, rfl, hz7, hc⟩
                    have HC := Lib.hid hc
                    have cy2 := cell_at hz7 2
                    simp at cy2
                    clear hc hz7 cz0 cz1 cz2
                    go_wp2_with fail
                    refine HC.out.mono ?_
                    rintro e w8 ⟨rfl, hz8, hs8, bs8, hj8⟩
                    go_wp2_with fail
                    go_meet
                    case rel => exact ⟨by simp, hz8, _, _, _, hj8⟩
                  · go_wp2_with fail
                    refine (j_draw HJ.out hN6 HZ.out hkk.2).mono ?_
                    rintro e w7 ⟨r7, rfl, hz7, hc⟩
                    have HC := Lib.hid hc
                    have cy2 := cell_at hz7 1
                    simp at cy2
                    clear hc hz7 cz0 cz1 cz2
                    go_wp2_with fail
                    refine HC.out.mono ?_
                    rintro e w8 ⟨rfl, hz8, hs8, bs8, hj8⟩
                    go_wp2_with fail
                    go_meet
                    case rel => exact ⟨by simp, hz8, _, _, _, hj8⟩
            case rest =>
              obtain ⟨rfl, hz9, wait9, heard9, bs9, hj9⟩ := hcut
              have hN9 := hj9.jt.low.size
              have cz1 := cell_at hz9 1
              have cm1 := cell_at hj9.r 1
              have cm2 := cell_at hj9.r 2
              obtain ⟨ua, ucap, cu, hu1, hu2⟩ := hj9.rleft
              simp at cz1 cm1 cm2
              have hb1 := hj9.h1
              have hb2 := hj9.h2
              have hb3 := hj9.w1
              have hb4 := hj9.w2
              have hb5 := hj9.t1
              have hb6 := hj9.t2
              have HJ9 := Lib.hid hj9
              have hdl : dueT wait9 heard9 (heard9 + wait9 - 1) = false := by simp [dueT]; omega
              clear hz9 hj9 hN6
              go_upto_region 38 with fail
              go_quiet ((first | (go_at_call 26; exact quiet_same (HJ9.out.drewN hN9 _).left) | (go_at_call 24; exact quiet_same (wait_any _ x b term wait9 heard9 (HJ9.out.drewN hN9 _).t (by omega))) | (go_at_call 28; exact q_due _ x b term wait9 heard9 _ (HJ9.out.drewN hN9 _).t (by omega) hb1 hb2) | (go_at_call 35; exact q_rdue _ m u term wait9 heard9 _ (HJ9.out.drewN hN9 _).r hb1 hb2)))
              have e1 : IntKind.i64.wrap (heard9 + wait9) = heard9 + wait9 := IntWalk.i64_in _ (by omega)
              have e2 : IntKind.i64.wrap (heard9 + wait9 - 1) = heard9 + wait9 - 1 := IntWalk.i64_in _ (by omega)
              have hdw : dueT wait9 heard9 (IntKind.i64.wrap (IntKind.i64.wrap (heard9 + wait9) - 1)) = false := by rw [e1, e2]; exact hdl
              clear e1 e2
              have HDW := Lib.hid hdw
              clear hdw
              go_wp2_with fail
              · have hh := ‹dueT wait9 heard9 (IntKind.i64.wrap (IntKind.i64.wrap (heard9 + wait9) - 1)) = true›
                rw [HDW.out] at hh
                cases hh
              · go_roundg (j - (i' + 1))
                case measure => omega
                case rel => exact ⟨i' + 1, by omega, by omega, by simp, wait9, heard9, bs9, HJ9.out.drewN hN9 _⟩
          · have hij : i' = j := by omega
            subst hij
            have HJ := Lib.hid hJ
            clear hJ
            go_wp2_with fail
            go_ret
            exact ⟨rfl, HJ.out.jt.low⟩
      · have HJ := Lib.hid hj1
        clear hj1
        go_wp2_with fail
        refine (new_bad w3 _ term (by omega)).mono ?_
        rintro e w3 ⟨rfl, rfl⟩
        go_wp2_with fail
        refine (rnew_bad w3 _ term (by omega)).mono ?_
        rintro e w3 ⟨rfl, rfl⟩
        go_wp2_with fail
        go_ret
        exact ⟨rfl, HJ.out.low⟩
end Go.Proofs.Ytjfdpggbpmicnaa.T
