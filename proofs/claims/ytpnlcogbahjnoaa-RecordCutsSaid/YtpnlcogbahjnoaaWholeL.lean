/- RecordWhole answers true, walked. Conditions stand at each theorem. -/
import Derived.Test.YtpnlcogbahjnoaaWhole
import Derived.Test.YtpnlcogbahjnoaaSpoiltL
import Derived.Deep.CutBlock
import Derived.Deep.CutRange
namespace Go.Proofs.Ytpnlcogbahjnoaa.F
open Go.RowKit Go.Proofs.Ytpnlcogbahjnoaa.M
set_option linter.unusedVariables false

theorem and63' (x : Int) : ∃ n : Nat, n ≤ 63 ∧ bits .and .i64 x 63 = n := by
  have h3 : ((BitVec.ofInt 64 x) &&& BitVec.ofInt 64 63).toNat ≤ 63 := by
    rw [BitVec.toNat_and]
    exact Nat.and_le_right
  refine ⟨((BitVec.ofInt 64 x) &&& BitVec.ofInt 64 63).toNat, h3, ?_⟩
  show IntKind.i64.wrap (((BitVec.ofInt 64 x &&& BitVec.ofInt 64 63).toNat : Nat) : Int) = _
  exact IntWalk.i64_in _ (by omega)
theorem LLs.old {w w' : World} {v : Value} {ls : List (List (List UInt8))} (h : LLs w v ls) (hb : Below w.heap.size w w') : LLs w' v ls := by
  obtain ⟨vs, h1, h2, h3⟩ := h
  exact ⟨vs, h1.below hb, h2, fun i l hi => by obtain ⟨u, g1, g2⟩ := h3 i l hi; exact ⟨u, g1, g2.below hb⟩⟩

set_option maxRecDepth 100000 in
set_option maxHeartbeats 2000000 in
theorem whole_yes (W : World) (v : Value) (ls : List (List (List UInt8))) (h : LLs W v ls) (fuse keep : Int) (hb1 : -9223372036854775808 ≤ keep) (hb2 : keep ≤ 9223372036854775807) :
    Calls Try.prog 11 #[v, .int .i64 fuse, .int .i64 keep] W fun e w' => e = .returned (.bool true) ∧ Below W.heap.size W w' := by
  obtain ⟨a, cap, rfl, hc, hm⟩ := h.shape
  obtain ⟨n63, hn63, hbits⟩ := and63' fuse
  obtain ⟨ti, hi, hz0, hz1, hz2⟩ := info_parts info23
  have Hi := Lib.hid hi
  have Hz0 := Lib.hid hz0
  have Hz1 := Lib.hid hz1
  have Hz2 := Lib.hid hz2
  have HL := Lib.hid h
  clear h hi hz0 hz1 hz2
  go_enter Try.func11, Try.ntmps11
  go_wp2_with fail
  refine (awake13_yes W).mono ?_
  rintro e w0 ⟨rfl, hb0⟩
  have B0 := Lib.hid hb0
  have HL0 : Hid (LLs w0 (.slice a ls.length cap) ls) := Lib.hid (HL.out.old hb0)
  clear hb0
  go_wp2_with fail
  refine (roomR_any w0 _ ls HL0.out).mono ?_
  rintro e w0' ⟨⟨r, rfl, hroom⟩, rfl⟩
  cases r with
  | false =>
    go_wp2_with fail
    go_ret
    exact ⟨rfl, B0.out⟩
  | true =>
    obtain ⟨h100, hsm⟩ := hroom rfl
    have HSM := Lib.hid hsm
    clear hroom hsm HL0
    go_wp2_with fail
    refine (new_any w0').mono ?_
    rintro e w1 ⟨f, b, rfl, hf0, hb0, h1, hb1⟩
    have H1 := Lib.hid h1
    have B1 := Lib.hid (B0.out.trans (hb1.mono B0.out.size))
    have hf0 : W.heap.size ≤ f := Nat.le_trans B0.out.size hf0
    have hb0 : W.heap.size ≤ b := Nat.le_trans B0.out.size hb0
    clear h1 hb1
    go_wp2_with fail
    refine (lj_create B1.out hf0 hb0 H1.out).mono ?_
    rintro e w2 ⟨p, rfl, h2⟩
    have H2 := Lib.hid h2
    clear h2 H1 B1
    obtain ⟨m, st, hF2, hm2, hs0, hs1⟩ := H2.out.disk
    have HF2 := Lib.hid hF2
    clear hF2
    go_wp2_with fail
    refine (fuse_on w2 f b m _ st (-1) n63 HF2.out).mono ?_
    rintro e w3 ⟨rfl, hF3, hfr3⟩
    have hW3 : WJ W w3 f b p n63 [] (.slice none 0 0) := by
      obtain ⟨lv, hlv⟩ := H2.out.log.v
      have hnf : ∀ g, g = f → ¬ Tag w2 g 5 ∧ ¬ Tag w2 g 22 := by
        rintro g rfl
        exact ⟨files_apart HF2.out _ (by decide) _ (.inl rfl), files_apart HF2.out _ (by decide) _ (.inl rfl)⟩
      refine ⟨H2.out.low.trans (hfr3.below H2.out.low.size (by rintro k rfl; exact hf0)), hf0, hb0, ⟨m, st, hF3, by simpa using hm2, hs0, by simpa using hs1⟩, ⟨lv, ⟨hlv.1, hfr3.obj hlv.2.1 ?_, hlv.2.2.fr hfr3 hnf⟩, fun g hg => by simp [Value.ownBlock] at hg⟩, by simp, SRecs.nil _ _⟩
      rintro rfl
      exact files_apart HF2.out 87 (by decide) _ (.inl rfl) ⟨_, _, hlv.2.1⟩
    have HW3 := Lib.hid hW3
    clear hW3 hF3 hfr3 H2 HF2 hs0 hs1 hm2
    go_upto_block 0 with fail
    go_cut [10, 11, 12] from 35 to 57 (fun s10 s11 s12 wx => Hid (WEnd W wx f b s10 s11))
    case first =>
      go_wp2_with fail
      go_loopg [10, 11, 12] ls.length (fun k s10 s11 s12 wr => ∃ (i : Nat) (fu : Int), s11 = .slice none 0 0 ∧ i ≤ ls.length ∧ k + i = ls.length ∧ s12 = .int .i64 i ∧ 0 ≤ fu ∧ fu ≤ 63 ∧ Hid (WJ W wr f b p fu (ls.take i) s10))
      case atStart => exact ⟨0, n63, rfl, by omega, by omega, rfl, by omega, by omega, by simpa using HW3⟩
      case round =>
        obtain ⟨i, fu, rfl, hi, hk, rfl, hfu0, hfu1, hj⟩ := hrel
        by_cases hlt : i < ls.length
        · obtain ⟨g, o, u, hix, hcell, hru⟩ := lls_ix HL.out i hlt
          have hc0 := ((bcell hj.out.low).1 g o (World.block_lt_of_cell? W _ hcell)).trans hcell
          obtain ⟨ua, ucap, hue, hu1, hu2⟩ := hru.shape
          have hgW := World.block_lt_of_cell? W _ hcell
          have hsl : Small ls[i] := HSM.out _ (List.getElem_mem hlt)
          have htk : ls.take (i + 1) = ls.take i ++ [ls[i]] := List.take_succ_eq_append_getElem hlt
          have HTK := Lib.hid htk
          have HSL := Lib.hid hsl
          have HRU := Lib.hid hru
          have HCL := Lib.hid hcell
          clear hcell hru hsl htk
          generalize ls[i] = l at *
          subst hue
          obtain ⟨sa, scap, hsv, hs1, hs2⟩ := hj.out.own.shape
          have hfl2 := flat_len (ls.take i) hj.out.fit
          have htl : (ls.take i).length = i := by simp; omega
          rw [htl] at hfl2
          obtain ⟨N, hN⟩ : ∃ N, N = (ls.take i).flatten.length := ⟨_, rfl⟩
          rw [← hN] at hsv hs1 hfl2
          have HN := Lib.hid hN
          have hil : (ls.take i).length ≤ 100 := by omega
          have HIL := Lib.hid hil
          clear hN htl hil
          subst hsv
          go_wp2_with fail
          refine (wj_app hj.out hfu0 hfu1 HIL.out _ l HSL.out HRU.out).mono ?_
          rintro e w4 ⟨e1, rfl, hs4, hout⟩
          rcases hout with ⟨rfl, fu', m4, st4, lv4, y1, y2, y3, y4, y5, y6, y7, y8, y9⟩ | ⟨rfl, hlow4, m4, st4, fu4, y1, y2⟩
          · obtain ⟨vs, hvs, hrv⟩ := hs4
            rw [← HN.out] at hvs
            obtain ⟨us, hus, hru⟩ := HRU.out
            have hc4 := ((bcell y3).1 g o hgW).trans HCL.out
            have HVS := Lib.hid hvs
            have HUS := Lib.hid (hus.old y3 (Nat.le_refl _))
            have HRV := Lib.hid (RecVals.append hrv hru)
            have HRO := Lib.hid hru.one
            have HSZ := Lib.hid y3.size
            have Y3 := Lib.hid y3
            have Y4 := Lib.hid y4
            have Y8 := Lib.hid y8
            have Y9 := Lib.hid y9
            have hll := HSL.out.1
            clear hvs hrv hus hru y3 y4 y8 y9 hc0
            go_wp2_with (at_builtin; refine wpList_append_owns rfl _ _ 23 rfl W.heap.size 22 ti (.slice none 0 0) 1 24 Try.underlying23 Hi.out Hz0.out Hz1.out Hz2.out rfl (.slice sa N scap) N vs rfl HVS.out (.slice ua l.length ucap) l.length us rfl HUS.out HRO.out (N + l.length) rfl (vs ++ us) rfl (by omega) (by omega) HSZ.out ?_; intro q kq w5 t1 t2 t3 t4 t5; have T1 := Lib.hid t1; have T4 := Lib.hid t4; have T5 := Lib.hid t5; clear t1 t4 t5)
            have F5 : Fr (fun k => (Value.slice sa N scap).ownBlock = some k) w4 w5 := Fr.of_grown (S := fun k => (Value.slice sa N scap).ownBlock = some k) T4.out (fun k hk _ => hk)
            have tg5 : ∀ g, (Value.slice sa N scap).ownBlock = some g → Tag w4 g 22 ∧ W.heap.size ≤ g := fun g hg => SRecs.tag (W := W) (rs := (ls.take i).flatten) ⟨vs, by rw [← HN.out]; exact HVS.out, by
              have := HRV.out
              refine ⟨?_, ?_⟩
              · have h1 := HVS.out.1
                rw [h1, ← HN.out]; simp
              · intro q r hq
                obtain ⟨u', h2, h3⟩ := this.2 q r (by rw [List.getElem?_append_left (List.getElem?_eq_some_iff.1 hq).1]; exact hq)
                refine ⟨u', ?_, h3⟩
                rw [List.getElem?_append_left (by have h1 := HVS.out.1; have h4 := (List.getElem?_eq_some_iff.1 hq).1; rw [← HN.out] at h4; omega)] at h2
                exact h2⟩ hg
            have nt5 : ∀ g, (Value.slice sa N scap).ownBlock = some g → ¬ Tag w4 g 5 := by intro g hg; obtain ⟨⟨cur, fz, z⟩, -⟩ := tg5 g hg; exact Tag.not z (by decide)
            have hfi5 := Y4.out.fr F5 (fun hh => files_apart Y4.out 22 (by decide) f (.inl rfl) (tg5 f hh).1) (fun hh => files_apart Y4.out 22 (by decide) b (.inr rfl) (tg5 b hh).1) nt5
            have hlow5 := Y3.out.trans (F5.below HSZ.out (fun k hk => (tg5 k hk).2))
            have hlog5 : LogV w5 W.heap.size p f ⟨#[114]⟩ lv4 (ls.take i ++ [l]).flatten := by
              obtain ⟨q1, q2, q3⟩ := Y8.out
              refine ⟨q1, F5.obj q2 (fun hh => Tag.not q2 (by decide) (tg5 p hh).1), ?_⟩
              obtain ⟨vs', r1, r2⟩ := q3
              exact ⟨vs', r1.fr F5 (fun g hg hh => Y9.out g hh hg), r2.fr F5 nt5⟩
            have hap5 : ∀ g, (Value.slice q (N + l.length) kq).ownBlock = some g → lv4.ownBlock ≠ some g := by
              intro g hg hh
              cases q with
              | none => simp [Value.ownBlock] at hg
              | some q0 =>
                simp only [Value.ownBlock, Option.some.injEq] at hg
                rcases T5.out q0 rfl with ht | ht
                · rw [hg] at ht; exact Y9.out g ht hh
                · have := (Y8.out.2.2.tag hh).1.lt
                  omega
            have hel : ((ls.take i) ++ [l]).flatten = (ls.take i).flatten ++ l := by simp
            have hnl : ((ls.take i).flatten ++ l).length = N + l.length := by rw [List.length_append, ← HN.out]
            have how5 : SRecs W w5 (.slice q (N + l.length) kq) ((ls.take i) ++ [l]).flatten := by
              rw [hel]
              exact ⟨vs ++ us, by rw [hnl]; exact T1.out, HRV.out⟩
            have hfit5 : ∀ l' ∈ ls.take i ++ [l], Small l' := by
              intro l' hl'
              rw [← HTK.out] at hl'
              exact HSM.out l' (List.mem_of_mem_take hl')
            have HW5 : Hid (WJ W w5 f b p fu' (ls.take i ++ [l]) (.slice q (N + l.length) kq)) := Lib.hid ⟨hlow5, hf0, hb0, ⟨m4, st4, hfi5, y5, y6, y7⟩, ⟨lv4, hlog5, hap5⟩, hfit5, how5⟩
            clear F5 tg5 nt5 hfi5 hlow5 hlog5 hap5 hel hnl how5 hfit5 y5 y6 y7
            go_roundg (ls.length - (i + 1))
            case measure => omega
            case rel => exact ⟨i + 1, fu', rfl, by omega, by omega, by simp, y1, y2, by rw [HTK.out]; exact HW5⟩
          · have hc4 := ((bcell hlow4).1 g o hgW).trans HCL.out
            have HE : Hid (WEnd W w4 f b (.slice sa N scap) (.slice ua l.length ucap)) := Lib.hid ⟨hlow4, ls.take i, l, frame (body l), m4, st4, fu4, true, hs4, HRU.out, y2, y1, fun l' hl' => HSM.out l' (List.mem_of_mem_take hl'), HIL.out, HSL.out, .inr rfl⟩
            clear hs4 hlow4 y2
            go_wp2_with fail
            go_meet
            case rel => exact HE
        · have hin : i = ls.length := by omega
          rw [hin, List.take_length] at hj
          obtain ⟨sa, scap, hsv, hs1, hs2⟩ := hj.out.own.shape
          obtain ⟨N, hN⟩ : ∃ N, N = ls.flatten.length := ⟨_, rfl⟩
          rw [← hN] at hsv hs1
          clear hN
          subst hsv
          obtain ⟨m4, st4, y1, y2, y3, y4⟩ := hj.out.disk
          have HE : Hid (WEnd W wr f b (.slice sa N scap) (.slice none 0 0)) := Lib.hid ⟨hj.out.low, ls, [], [], m4, st4, fu, false, hj.out.own, Recs.nil _, by rw [List.append_nil]; exact y1, by omega, HSM.out, h100, small_nil, .inl rfl⟩
          clear y1
          go_wp2_with fail
          go_meet
          case rel => exact HE
    case rest =>
      obtain ⟨low, ks, last, F, m9, st9, fu9, dead9, h10, h11, hF9, hm9, hks, hkl, hla, hFF⟩ := hcut.out
      obtain ⟨sa, scap, hsv, hs1, hs2⟩ := h10.shape
      obtain ⟨la, lcap, hlv, hl1, hl2⟩ := h11.shape
      have hN50 := flat_len ks hks
      have hfit := fileOf_len ks hks
      have hfr9 := hla.frame_le
      obtain ⟨N, hN⟩ : ∃ N, N = ks.flatten.length := ⟨_, rfl⟩
      rw [← hN] at hsv hs1 hN50
      subst hsv hlv
      have HN := Lib.hid hN
      have H10 := Lib.hid h10
      have H11 := Lib.hid h11
      have HF9 := Lib.hid hF9
      have HLOW := Lib.hid low
      have HKS := Lib.hid hks
      have HLA := Lib.hid hla
      have HFF := Lib.hid hFF
      have hFl : F.length ≤ 20000 := by
        rcases hFF with rfl | rfl
        · simp
        · exact hfr9
      have hxl : (fileOf ks ++ F).length ≤ 1099511627776 := by simp; omega
      clear hN h10 h11 hF9 low hks hla hFF hcut
      go_wp2_with fail
      have hA : Below wc.heap.size wc (wc.alloc (.cells #[.int .i64 keep] 3)) := (Below.refl _ _).alloc (Nat.le_refl _) _
      refine (crash1 _ f b m9 _ _ _ [114] _ _ (HF9.out.below hA) hxl (by omega) _ [keep] (ints_lit [keep] (heap_alloc_new _ _) rfl (by simp)) (by simp; omega)).mono ?_
      rintro e wB ⟨f', b', rfl, hf', hb', hFB, hbB⟩
      have HFB := Lib.hid hFB
      have BB := Lib.hid (hA.trans (hbB.mono hA.size))
      have hfs : wc.heap.size ≤ f' := Nat.le_trans hA.size hf'
      have hbs : wc.heap.size ≤ b' := Nat.le_trans hA.size hb'
      clear hFB hbB hA hf' hb'
      go_wp2_with fail
      refine (wend_open HKS.out hkl HLA.out HFF.out HFB.out (by omega) (by omega) (by omega)).mono ?_
      rintro e wC ⟨p', rs, rfl, hlogC, hrs, hfrC⟩
      have GC : Fr (fun k => k = f' ∨ k = b') wc wC := (Fr.of_below (S := fun k => k = f' ∨ k = b') BB.out).trans hfrC (fun _ _ h => h)
      have SC := Lib.hid (H10.out.fr GC (fun g hg hh => by have := (H10.out.tag hg).1.lt; omega))
      have BC := Lib.hid (HLOW.out.trans (GC.below HLOW.out.size (by have := HLOW.out.size; rintro k (rfl | rfl) <;> omega)))
      have HLC := Lib.hid hlogC
      have hrl : rs.length ≤ 1073741824 := by
        have := HLA.out.1
        have := HN.out
        rcases hrs with rfl | rfl
        · omega
        · rw [List.length_append]; omega
      have HRL : Hid (∀ (i : Nat) (r : List UInt8), rs[i]? = some r → r.length ≤ 1099511627776) := Lib.hid (by
        intro i r hi
        have hmem := List.mem_of_getElem? hi
        have hall : r ∈ ks.flatten ∨ r ∈ last := by
          rcases hrs with rfl | rfl
          · exact .inl hmem
          · exact List.mem_append.1 hmem
        rcases hall with hh | hh
        · obtain ⟨l', h1, h2⟩ := List.mem_flatten.1 hh
          have := (HKS.out l' h1).2 r h2
          omega
        · have := HLA.out.2 r hh
          omega)
      have HRS := Lib.hid hrs
      clear hlogC hrs hfrC GC
      go_wp2_with fail
      refine (all_any wC _ p' f' _ rs HLC.out hrl HRL.out).mono ?_
      rintro e wD ⟨vD, rfl, hvD, hbD⟩
      obtain ⟨da, dcap, rfl, -, -⟩ := hvD.shape
      have SD := Lib.hid (SC.out.fr (Fr.of_below (S := fun _ => False) hbD) (fun _ _ h => h))
      have BD := Lib.hid (BC.out.trans (hbD.mono BC.out.size))
      have HVD := Lib.hid hvD
      have HLD := Lib.hid (HLC.out.below hbD)
      clear hvD hbD
      go_wp2_with fail
      refine (sameR_any wD _ _ rs ks.flatten HVD.out.recs (SD.out.recs BD.out)).mono ?_
      rintro e wE ⟨rfl, nE, rfl⟩
      generalize hd : decide (rs = ks.flatten) = d at *
      cases d with
      | true =>
        go_wp2_with fail
        go_ret
        exact ⟨rfl, below_drewN BD.out nE⟩
      | false =>
        have hne := of_decide_eq_false hd
        have HRS2 : Hid (rs = ks.flatten ++ last) := Lib.hid (HRS.out.resolve_left hne)
        clear hd hne
        have GE : Hid (Below wD.heap.size wD (wD.drewN nE)) := Lib.hid (below_drewN (Below.refl _ _) _)
        generalize wD.drewN nE = wE at *
        have SE := Lib.hid (SD.out.fr (Fr.of_below (S := fun _ => False) GE.out) (fun _ _ h => h))
        have BE := Lib.hid (BD.out.trans (GE.out.mono BD.out.size))
        have HLE := Lib.hid (HLD.out.below GE.out)
        go_wp2_with fail
        refine (all_any wE _ p' f' _ rs HLE.out hrl HRL.out).mono ?_
        rintro e wF ⟨vF, rfl, hvF, hbF⟩
        obtain ⟨fa, fcap, rfl, -, -⟩ := hvF.shape
        have SF := SE.out.fr (Fr.of_below (S := fun _ => False) hbF) (fun _ _ h => h)
        obtain ⟨vs, hvs, hrv⟩ := SF
        rw [← HN.out] at hvs
        obtain ⟨us, hus, hru⟩ := H11.out
        have BF := Lib.hid (BE.out.trans (hbF.mono BE.out.size))
        have HVF := Lib.hid hvF
        have HVS := Lib.hid hvs.reads
        have HUS := Lib.hid (hus.old BF.out (Nat.le_refl _))
        have HRV := Lib.hid (RecVals.append hrv hru)
        have HO1 := Lib.hid hrv.one
        have HO2 := Lib.hid hru.one
        have hll := HLA.out.1
        clear hvF hbF hvs hrv hus hru
        go_wp2_with (first | (at_builtin; refine wpList_append_ownz_g (by rfl) _ _ 23 rfl wF.heap.size 22 ti (.slice none 0 0) 1 24 Try.underlying23 Hi.out Hz0.out Hz1.out Hz2.out rfl (.slice q1 N k1) N vs rfl Z1.out (.slice la last.length lcap) last.length us rfl (HUS.out.below G1.out) HO2.out (N + last.length) rfl (vs ++ us) rfl (by omega) (by omega) G1.out.size ?_; intro q2 k2 wH t1 t2 t3 t4; have Z2 := Lib.hid t1; have G2 := Lib.hid (G1.out.trans (t4.below G1.out.size (fun k hk => hk.1))); clear t1 t4) | (at_builtin; refine wpList_append_ownz_g (by rfl) _ _ 23 rfl wF.heap.size 22 ti (.slice none 0 0) 1 24 Try.underlying23 Hi.out Hz0.out Hz1.out Hz2.out rfl (.slice (some ⟨wF.heap.size, 0, none⟩) 0 0) 0 [] rfl (.inr ⟨⟨_, rfl⟩, rfl, rfl⟩) (.slice sa N scap) N vs rfl (HVS.out.below ((Below.refl _ _).alloc (Nat.le_refl _) _)) HO1.out N (Nat.zero_add _) vs rfl (by omega) (by omega) (by simp) ?_; intro q1 k1 wG t1 t2 t3 t4; have Z1 := Lib.hid t1; have G1 := Lib.hid (((Below.refl wF.heap.size wF).alloc (Nat.le_refl _) _).trans (t4.below (by simp) (fun k hk => hk.1))); clear t1 t4))
        have BH := Lib.hid (BF.out.trans (G2.out.mono BF.out.size))
        have hy : Recs wH (.slice q2 (N + last.length) k2) rs := by
          rw [HRS2.out]
          refine ⟨vs ++ us, ?_, HRV.out.old BH.out⟩
          rw [List.length_append, ← HN.out]
          exact Z2.out.reads
        have HY := Lib.hid hy
        clear hy
        refine (sameR_any wH _ _ rs rs (HVF.out.recs.below G2.out) HY.out).mono ?_
        rintro e wI ⟨rfl, nI, rfl⟩
        have hdd : decide (rs = rs) = true := decide_eq_true rfl
        go_wp2_with fail
        go_ret
        exact ⟨rfl, below_drewN BH.out nI⟩
end Go.Proofs.Ytpnlcogbahjnoaa.F
