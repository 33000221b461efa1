/- The reference's disk: Crash. Conditions stand at each theorem. -/
import Derived.Test.YtpnlcogbahjnoaaGreatQDisk2
import Derived.Test.YtpnlcogbahjnoaaGreatLast
namespace Go.Proofs.YtpnlcogbahjnoaaGreat.F
open Go.RowKit Go.Proofs.YtpnlcogbahjnoaaGreat.M
set_option linter.unusedVariables false
def cutK (ks : List Int) : Int := if h : 0 < ks.length then ks[0] else 0
set_option maxRecDepth 100000 in
set_option maxHeartbeats 4000000 in
theorem qcrash (w : World) (g h o cap : Nat) (st fu : Int) (dead : Bool) (hd : QD w g (.slice (some ⟨h, o, none⟩) 1 cap) st fu dead) (hcap : 1 ≤ cap) (s : ByteArray) (x : List UInt8) (l : Nat) (hf : QFile w h o s x l) (hlx : l ≤ x.length)
    (hl : x.length ≤ 1099511627776) (kv : Value) (ks : List Int) (hkv : Reads w 1 kv ks.length (ks.map (.int .i64))) (hks : ∀ x ∈ ks, -9223372036854775808 ≤ x ∧ x ≤ 9223372036854775807) :
    Calls Tryz.prog 20 #[.pointer (some ⟨g, 0, none⟩), kv] w fun e w' => ∃ g' h' o' cap', e = .returned (.pointer (some ⟨g', 0, none⟩)) ∧ w.heap.size ≤ g' ∧ w.heap.size ≤ h' ∧ 1 ≤ cap' ∧
      QD w' g' (.slice (some ⟨h', o', none⟩) 1 cap') 0 (-1) false ∧ QFile w' h' o' s (x.take (l + cutN ks 0 x l)) (l + cutN ks 0 x l) ∧ Below w.heap.size w w' := by
  obtain ⟨i, hi, hz0, hz1, hz2⟩ := info_parts infoOne
  obtain ⟨i3, hi3, hs3⟩ := info3x
  obtain ⟨ka, kcap, rfl, hkc, hkm⟩ := hkv.shape
  have Hi := Lib.hid hi
  have Hz0 := Lib.hid hz0
  have Hz1 := Lib.hid hz1
  have Hz2 := Lib.hid hz2
  have Hi3 := Lib.hid hi3
  have Hs3 := Lib.hid hs3
  have HK := Lib.hid hkv
  have HKS := Lib.hid hks
  have HD := Lib.hid hd
  have HF := Lib.hid hf
  clear hi hz0 hz1 hz2 hd hf hi3 hs3 hkv hks
  go_enter Tryz.func20, Tryz.ntmps20
  go_wp2_with fail
  refine (qnew_any w).mono ?_
  rintro e w1 ⟨rfl, hn, hb1⟩
  have HN := Lib.hid hn
  have HB1 := Lib.hid hb1
  have HD1 := Lib.hid (HD.out.fr (Fr.of_below (S := fun _ => False) hb1) id)
  have HF1 := Lib.hid (HF.out.below hb1)
  have HK1 := Lib.hid (Reads.below HK.out hb1)
  obtain ⟨c0, -, -, -⟩ := HD1.out.cells
  obtain ⟨n0, -, -, -⟩ := hn.cells
  have m0 := free_at hn 0
  obtain ⟨bv, d0, d1, d2, -, -, hob⟩ := HF1.out.cells
  obtain ⟨ba, bcap, rfl, hbc, hbm⟩ := hob.1.shape
  have HOB := Lib.hid hob
  generalize hg' : w.heap.size = g' at *
  clear hn hb1 hob
  go_wp2_with fail
  go_loopg [6] 2 (fun k s6 wr => (k = 2 ∧ s6 = .int .i64 0 ∧ wr = w1) ∨ (k = 1 ∧ s6 = .int .i64 1 ∧ Hid (∃ h' o' cap', w.heap.size ≤ h' ∧ 1 ≤ cap' ∧ QD wr g' (.slice (some ⟨h', o', none⟩) 1 cap') 0 (-1) false ∧ QFile wr h' o' s (x.take (l + cutN ks 0 x l)) (l + cutN ks 0 x l) ∧ Below w.heap.size w wr)))
  case atStart => exact .inl ⟨rfl, rfl, rfl⟩
  case round =>
    rcases hrel with ⟨rfl, rfl, rfl⟩ | ⟨rfl, rfl, hfin⟩
    · go_upto_region 6 with fail
      go_cut [36] from 26 to 35 (fun s36 wx => s36 = .bool (decide (0 < cutK ks)) ∧ wx = wr)
      case first =>
        by_cases hk0 : 0 < ks.length
        · obtain ⟨g3, o3, hix3, hcell3, _⟩ := index_reads 23 3 Tryz.underlying23 _ Hi3.out wr Hs3.out _ _ _ HK1.out 0 (.int .i64 ks[0]) (by simp [hk0])
          have hix3' : ∀ (k : IntKind) (w' : World), (Instr.indexAt 23 (.slice ka ks.length kcap) (.int k 0)).run Tryz.prog w' = .ok (.pointer (some ⟨g3, o3, none⟩)) w' := hix3
          have ec : cutK ks = ks[0] := by simp [cutK, hk0]
          have EC := Lib.hid ec
          clear ec hix3
          go_wp2_with fail
          go_meet
          case rel => exact ⟨by rw [EC.out], rfl⟩
        · have ec : decide (0 < cutK ks) = false := by simp [cutK, hk0]
          have EC := Lib.hid ec
          clear ec
          go_wp2_with fail
          go_meet
          case rel => exact ⟨by rw [EC.out], rfl⟩
      case rest =>
        obtain ⟨rfl, rfl⟩ := hcut
        go_upto_if 36 with fail
        generalize hbb : decide (0 < cutK ks) = bb at *
        go_cut [7] from 37 to 54 (fun s7 wx => s7 = .int .i64 ((l + cutN ks 0 x l : Nat) : Int) ∧ ∃ n, wx = wc.drewN n)
        case first =>
          cases bb with
          | true =>
            have hpos : 0 < cutK ks := of_decide_eq_true hbb
            clear hbb
            have hk0 : 0 < ks.length := by
              by_cases hh : 0 < ks.length
              · exact hh
              · simp [cutK, hh] at hpos
            obtain ⟨g3, o3, hix3, hcell3, _⟩ := index_reads 23 3 Tryz.underlying23 _ Hi3.out wc Hs3.out _ _ _ HK1.out 0 (.int .i64 ks[0]) (by simp [hk0])
            have hix3' : ∀ (k : IntKind) (w' : World), (Instr.indexAt 23 (.slice ka ks.length kcap) (.int k 0)).run Tryz.prog w' = .ok (.pointer (some ⟨g3, o3, none⟩)) w' := hix3
            have hkb := HKS.out ks[0] (List.getElem_mem hk0)
            have ec : cutK ks = ks[0] := by simp [cutK, hk0]
            have en : cutN ks 0 x l = Int.toNat (max 0 (min ks[0] ((x.length : Int) - l))) := by simp [cutN, hk0]
            have hp0 : 0 < ks[0] := by rw [← ec]; exact hpos
            have EN := Lib.hid en
            clear ec hix3 en
            generalize ks[0] = k0 at *
            go_wp2_with fail
            go_quiet (fail)
            go_wp2_with fail
            go_meet
            case rel => exact ⟨by rw [EN.out]; congr 1; omega, _, rfl⟩
          | false =>
            have hpos : ¬ 0 < cutK ks := of_decide_eq_false hbb
            clear hbb
            have en : cutN ks 0 x l = 0 := by
              by_cases hk0 : 0 < ks.length
              · have ec : cutK ks = ks[0] := by simp [cutK, hk0]
                simp only [cutN, hk0, dif_pos]
                rw [ec] at hpos
                omega
              · simp [cutN, hk0]
            have EN := Lib.hid en
            clear en
            go_wp2_with fail
            go_meet
            case rel => exact ⟨by rw [EN.out]; rfl, 0, rfl⟩
        case rest =>
          obtain ⟨rfl, nd, rfl⟩ := hcut
          have hcl := cutN_le ks 0 x l hlx
          have n3 : (wc.drewN nd).cell? ⟨g', 0, none⟩ = some (.slice none 0 0) := n0
          have m3 : (wc.drewN nd).frozen? ⟨g', 0, none⟩ = false := m0
          have c3 : (wc.drewN nd).cell? ⟨g, 0, none⟩ = some (.slice (some ⟨h, o, none⟩) 1 cap) := c0
          have d3 : (wc.drewN nd).cell? ⟨h, o, none⟩ = some (.string s) := d0
          have d31 : (wc.drewN nd).cell? ⟨h, o + 1, none⟩ = some (.slice ba x.length bcap) := d1
          have W3 := below_drewN (Below.refl wc.heap.size wc) nd
          have HN3 := Lib.hid (HN.out.fr (Fr.of_below (S := fun _ => False) W3) id)
          have HB3 := Lib.hid (HB1.out.trans (W3.mono (Nat.le_trans (Nat.le_of_eq hg'.symm) HB1.out.size)))
          generalize hNN : l + cutN ks 0 x l = N at *
          have HNN := Lib.hid hNN
          have HOB3 := Lib.hid (bytes_upto (Reads.below HOB.out.1 W3) N hcl)
          have hgg3 : g < (wc.drewN nd).heap.size := lt_of_obj HD1.out
          have hhl3 : h < (wc.drewN nd).heap.size := HF1.out.tag.lt
          have hgl3 : g' < (wc.drewN nd).heap.size := lt_of_obj HN.out
          have hln2 : (x.take N).length = N := by simp; omega
          have HLN := Lib.hid hln2
          have hnc : N ≤ bcap := by omega
          clear n0 m0 c0 d0 d1 d2 W3 hNN hln2
          have hgg' : ¬ g = g' := by have := lt_of_obj HD.out; omega
          have hhg' : ¬ h = g' := by have := HF.out.tag.lt; omega
          generalize wc.drewN nd = w3 at *
          go_upto_region 8 with fail
          have SK := fun (u : World) (y : Value) => Fr.setCell (S := fun k => k = g') (Fr.refl (fun k => k = g') u) ⟨g', 0, none⟩ y (fun _ => rfl)
          refine region_last (fun w' => w'.cell? ⟨g', 0, none⟩ = some (.slice none 0 0) ∧ w'.cell? ⟨g, 0, none⟩ = some (.slice (some ⟨h, o, none⟩) 1 cap) ∧ w'.cell? ⟨h, o, none⟩ = some (.string s) ∧ w'.cell? ⟨h, o + 1, none⟩ = some (.slice ba x.length bcap)) 30 _ _ (idled _ 30 _ rfl rfl) (by kernel_rfl) rfl rfl (by kernel_rfl) (by kernel_rfl) (by kernel_rfl) (by simp [*]) (fun hHeld => ?_)
          simp only [List.set_cons_succ, List.set_cons_zero, idleO]
          refine' wpAnyH_take (i := 0) (oi := _) (v := _) ?hi0 (by kernel_rfl) (by kernel_rfl) (by kernel_rfl) ?hQ0 (Or.inl ⟨?hw0, ?hy0⟩) (by assumption) ?rest0
          case hi0 => (simp only [List.getElem?_toArray, List.getElem?_cons_zero]; rfl)
          case hQ0 => exact fun _ _ _ h => h
          case hw0 => rfl
          case hy0 => (intro w hSw; (try dsimp only at hSw); go_simp; try (with_reducible rfl))
          try simp only [Act.put, List.setIfInBounds_toArray, List.set_cons_zero, List.set_cons_succ]
          refine' wpAnyH_take (i := 1) (oi := _) (v := _) ?hi1 (by kernel_rfl) (by kernel_rfl) (by kernel_rfl) ?hQ1 (Or.inl ⟨?hw1, ?hy1⟩) (by assumption) ?rest1
          case hi1 => (simp only [List.getElem?_toArray, List.getElem?_cons_succ, List.getElem?_cons_zero]; rfl)
          case hQ1 => exact fun _ _ _ h => h
          case hw1 => rfl
          case hy1 => (intro w hSw; (try dsimp only at hSw); go_simp; try (with_reducible rfl))
          try simp only [Act.put, List.setIfInBounds_toArray, List.set_cons_zero, List.set_cons_succ]
          refine' wpAnyH_take (i := 2) (oi := _) (v := _) ?hi2 (by kernel_rfl) (by kernel_rfl) (by kernel_rfl) ?hQ2 (Or.inl ⟨?hw2, ?hy2⟩) (by assumption) ?rest2
          case hi2 => (simp only [List.getElem?_toArray, List.getElem?_cons_succ, List.getElem?_cons_zero]; rfl)
          case hQ2 => exact fun _ _ _ h => h
          case hw2 => rfl
          case hy2 => (intro w hSw; (try dsimp only at hSw); go_simp; try (with_reducible rfl))
          try simp only [Act.put, List.setIfInBounds_toArray, List.set_cons_zero, List.set_cons_succ]
          refine' wpAnyH_take (i := 3) (oi := _) (v := _) ?hi3 (by kernel_rfl) (by kernel_rfl) (by kernel_rfl) ?hQ3 (Or.inl ⟨?hw3, ?hy3⟩) (by assumption) ?rest3
          case hi3 => (simp only [List.getElem?_toArray, List.getElem?_cons_succ, List.getElem?_cons_zero]; rfl)
          case hQ3 => exact fun _ _ _ h => h
          case hw3 => rfl
          case hy3 => (intro w hSw; (try dsimp only at hSw); go_simp; try (with_reducible rfl))
          try simp only [Act.put, List.setIfInBounds_toArray, List.set_cons_zero, List.set_cons_succ]
          refine' wpAnyH_take (i := 4) (oi := _) (v := _) ?hi4 (by kernel_rfl) (by kernel_rfl) (by kernel_rfl) ?hQ4 (Or.inl ⟨?hw4, ?hy4⟩) (by assumption) ?rest4
          case hi4 => (simp only [List.getElem?_toArray, List.getElem?_cons_succ, List.getElem?_cons_zero]; rfl)
          case hQ4 => exact fun _ _ _ h => h
          case hw4 => rfl
          case hy4 => (intro w hSw; (try dsimp only at hSw); go_simp; try (with_reducible rfl))
          try simp only [Act.put, List.setIfInBounds_toArray, List.set_cons_zero, List.set_cons_succ]
          refine' wpAnyH_take (i := 5) (oi := _) (v := _) ?hi5 (by kernel_rfl) (by kernel_rfl) (by kernel_rfl) ?hQ5 (Or.inl ⟨?hw5, ?hy5⟩) (by assumption) ?rest5
          case hi5 => (simp only [List.getElem?_toArray, List.getElem?_cons_succ, List.getElem?_cons_zero]; rfl)
          case hQ5 => exact fun _ _ _ h => h
          case hw5 => rfl
          case hy5 => (intro w hSw; (try dsimp only at hSw); go_simp; try (with_reducible rfl))
          try simp only [Act.put, List.setIfInBounds_toArray, List.set_cons_zero, List.set_cons_succ]
          refine' wpAnyH_take (i := 6) (oi := _) (v := _) ?hi6 (by kernel_rfl) (by kernel_rfl) (by kernel_rfl) ?hQ6 (Or.inl ⟨?hw6, ?hy6⟩) (by assumption) ?rest6
          case hi6 => (simp only [List.getElem?_toArray, List.getElem?_cons_succ, List.getElem?_cons_zero]; rfl)
          case hQ6 => exact fun _ _ _ h => h
          case hw6 => rfl
          case hy6 => (intro w hSw; (try dsimp only at hSw); go_simp; try (with_reducible rfl))
          try simp only [Act.put, List.setIfInBounds_toArray, List.set_cons_zero, List.set_cons_succ]
          refine' wpAnyH_take (i := 7) (oi := _) (v := _) ?hi7 (by kernel_rfl) (by kernel_rfl) (by kernel_rfl) ?hQ7 (Or.inl ⟨?hw7, ?hy7⟩) (by assumption) ?rest7
          case hi7 => (simp only [List.getElem?_toArray, List.getElem?_cons_succ, List.getElem?_cons_zero]; rfl)
          case hQ7 => exact fun _ _ _ h => h
          case hw7 => rfl
          case hy7 => (intro w hSw; (try dsimp only at hSw); go_simp; try (with_reducible rfl))
          try simp only [Act.put, List.setIfInBounds_toArray, List.set_cons_zero, List.set_cons_succ]
          refine' wpAnyH_take (i := 8) (oi := _) (v := _) ?hi8 (by kernel_rfl) (by kernel_rfl) (by kernel_rfl) ?hQ8 (Or.inl ⟨?hw8, ?hy8⟩) (by assumption) ?rest8
          case hi8 => (simp only [List.getElem?_toArray, List.getElem?_cons_succ, List.getElem?_cons_zero]; rfl)
          case hQ8 => exact fun _ _ _ h => h
          case hw8 => rfl
          case hy8 => (intro w hSw; (try dsimp only at hSw); go_simp; try (with_reducible rfl))
          try simp only [Act.put, List.setIfInBounds_toArray, List.set_cons_zero, List.set_cons_succ]
          refine' wpAnyH_take (i := 9) (oi := _) (v := _) ?hi9 (by kernel_rfl) (by kernel_rfl) (by kernel_rfl) ?hQ9 (Or.inl ⟨?hw9, ?hy9⟩) (by assumption) ?rest9
          case hi9 => (simp only [List.getElem?_toArray, List.getElem?_cons_succ, List.getElem?_cons_zero]; rfl)
          case hQ9 => exact fun _ _ _ h => h
          case hw9 => rfl
          case hy9 => (intro w hSw; (try dsimp only at hSw); go_simp; try (with_reducible rfl))
          try simp only [Act.put, List.setIfInBounds_toArray, List.set_cons_zero, List.set_cons_succ]
          refine' wpAnyH_take (i := 10) (oi := _) (v := _) ?hi10 (by kernel_rfl) (by kernel_rfl) (by kernel_rfl) ?hQ10 (Or.inl ⟨?hw10, ?hy10⟩) (by assumption) ?rest10
          case hi10 => (simp only [List.getElem?_toArray, List.getElem?_cons_succ, List.getElem?_cons_zero]; rfl)
          case hQ10 => exact fun _ _ _ h => h
          case hw10 => rfl
          case hy10 => (intro w hSw; (try dsimp only at hSw); go_simp; try (with_reducible rfl))
          try simp only [Act.put, List.setIfInBounds_toArray, List.set_cons_zero, List.set_cons_succ]
          refine' wpAnyH_take (i := 11) (oi := _) (v := _) ?hi11 (by kernel_rfl) (by kernel_rfl) (by kernel_rfl) ?hQ11 (Or.inl ⟨?hw11, ?hy11⟩) (by assumption) ?rest11
          case hi11 => (simp only [List.getElem?_toArray, List.getElem?_cons_succ, List.getElem?_cons_zero]; rfl)
          case hQ11 => exact fun _ _ _ h => h
          case hw11 => rfl
          case hy11 => (intro w hSw; (try dsimp only at hSw); go_simp; try (with_reducible rfl))
          try simp only [Act.put, List.setIfInBounds_toArray, List.set_cons_zero, List.set_cons_succ]
          refine' wpAnyH_take (i := 12) (oi := _) (v := _) ?hi12 (by kernel_rfl) (by kernel_rfl) (by kernel_rfl) ?hQ12 (Or.inl ⟨?hw12, ?hy12⟩) (by assumption) ?rest12
          case hi12 => (simp only [List.getElem?_toArray, List.getElem?_cons_succ, List.getElem?_cons_zero]; rfl)
          case hQ12 => exact fun _ _ _ h => h
          case hw12 => rfl
          case hy12 => (intro w hSw; (try dsimp only at hSw); go_simp; try (with_reducible rfl))
          try simp only [Act.put, List.setIfInBounds_toArray, List.set_cons_zero, List.set_cons_succ]
          refine' wpAnyH_take (i := 13) (oi := _) (v := _) ?hi13 (by kernel_rfl) (by kernel_rfl) (by kernel_rfl) ?hQ13 (Or.inl ⟨?hw13, ?hy13⟩) (by assumption) ?rest13
          case hi13 => (simp only [List.getElem?_toArray, List.getElem?_cons_succ, List.getElem?_cons_zero]; rfl)
          case hQ13 => exact fun _ _ _ h => h
          case hw13 => rfl
          case hy13 => (intro w hSw; (try dsimp only at hSw); go_simp; try (with_reducible rfl))
          try simp only [Act.put, List.setIfInBounds_toArray, List.set_cons_zero, List.set_cons_succ]
          refine' wpAnyH_take (i := 14) (oi := _) (v := _) ?hi14 (by kernel_rfl) (by kernel_rfl) (by kernel_rfl) ?hQ14 (Or.inl ⟨?hw14, ?hy14⟩) (by assumption) ?rest14
          case hi14 => (simp only [List.getElem?_toArray, List.getElem?_cons_succ, List.getElem?_cons_zero]; rfl)
          case hQ14 => exact fun _ _ _ h => h
          case hw14 => rfl
          case hy14 => (intro w hSw; (try dsimp only at hSw); go_simp; try (with_reducible rfl))
          try simp only [Act.put, List.setIfInBounds_toArray, List.set_cons_zero, List.set_cons_succ]
          refine' wpAnyH_take (i := 15) (oi := _) (v := _) ?hi15 (by kernel_rfl) (by kernel_rfl) (by kernel_rfl) ?hQ15 (Or.inl ⟨?hw15, ?hy15⟩) (by assumption) ?rest15
          case hi15 => (simp only [List.getElem?_toArray, List.getElem?_cons_succ, List.getElem?_cons_zero]; rfl)
          case hQ15 => exact fun _ _ _ h => h
          case hw15 => rfl
          case hy15 => (intro w hSw; (try dsimp only at hSw); go_simp; try (with_reducible rfl))
          try simp only [Act.put, List.setIfInBounds_toArray, List.set_cons_zero, List.set_cons_succ]
          refine' wpAnyH_take (i := 16) (oi := _) (v := _) ?hi16 (by kernel_rfl) (by kernel_rfl) (by kernel_rfl) ?hQ16 (Or.inl ⟨?hw16, ?hy16⟩) (by assumption) ?rest16
          case hi16 => (simp only [List.getElem?_toArray, List.getElem?_cons_succ, List.getElem?_cons_zero]; rfl)
          case hQ16 => exact fun _ _ _ h => h
          case hw16 => rfl
          case hy16 => (intro w hSw; (try dsimp only at hSw); go_simp; try (with_reducible rfl))
          try simp only [Act.put, List.setIfInBounds_toArray, List.set_cons_zero, List.set_cons_succ]
          refine' wpAnyH_take (i := 17) (oi := _) (v := _) ?hi17 (by kernel_rfl) (by kernel_rfl) (by kernel_rfl) ?hQ17 (Or.inl ⟨?hw17, ?hy17⟩) (by assumption) ?rest17
          case hi17 => (simp only [List.getElem?_toArray, List.getElem?_cons_succ, List.getElem?_cons_zero]; rfl)
          case hQ17 => exact fun _ _ _ h => h
          case hw17 => rfl
          case hy17 => (intro w hSw; (try dsimp only at hSw); go_simp; try (with_reducible rfl))
          try simp only [Act.put, List.setIfInBounds_toArray, List.set_cons_zero, List.set_cons_succ]
          refine' wpAnyH_take (i := 18) (oi := _) (v := _) ?hi18 (by kernel_rfl) (by kernel_rfl) (by kernel_rfl) ?hQ18 (Or.inl ⟨?hw18, ?hy18⟩) (by assumption) ?rest18
          case hi18 => (simp only [List.getElem?_toArray, List.getElem?_cons_succ, List.getElem?_cons_zero]; rfl)
          case hQ18 => exact fun _ _ _ h => h
          case hw18 => rfl
          case hy18 => (intro w hSw; (try dsimp only at hSw); go_simp; try (with_reducible rfl))
          try simp only [Act.put, List.setIfInBounds_toArray, List.set_cons_zero, List.set_cons_succ]
          refine' wpAnyH_take (i := 19) (oi := _) (v := _) ?hi19 (by kernel_rfl) (by kernel_rfl) (by kernel_rfl) ?hQ19 (Or.inl ⟨?hw19, ?hy19⟩) (by assumption) ?rest19
          case hi19 => (simp only [List.getElem?_toArray, List.getElem?_cons_succ, List.getElem?_cons_zero]; rfl)
          case hQ19 => exact fun _ _ _ h => h
          case hw19 => rfl
          case hy19 => (intro w hSw; (try dsimp only at hSw); go_simp; try (with_reducible rfl))
          try simp only [Act.put, List.setIfInBounds_toArray, List.set_cons_zero, List.set_cons_succ]
          refine' wpAnyH_take (i := 20) (oi := _) (v := _) ?hi20 (by kernel_rfl) (by kernel_rfl) (by kernel_rfl) ?hQ20 (Or.inl ⟨?hw20, ?hy20⟩) (by assumption) ?rest20
          case hi20 => (simp only [List.getElem?_toArray, List.getElem?_cons_succ, List.getElem?_cons_zero]; rfl)
          case hQ20 => exact fun _ _ _ h => h
          case hw20 => rfl
          case hy20 => (intro w hSw; (try dsimp only at hSw); go_simp; try (with_reducible rfl))
          try simp only [Act.put, List.setIfInBounds_toArray, List.set_cons_zero, List.set_cons_succ]
          refine' wpAnyH_take (i := 21) (oi := _) (v := _) ?hi21 (by kernel_rfl) (by kernel_rfl) (by kernel_rfl) ?hQ21 (Or.inl ⟨?hw21, ?hy21⟩) (by assumption) ?rest21
          case hi21 => (simp only [List.getElem?_toArray, List.getElem?_cons_succ, List.getElem?_cons_zero]; rfl)
          case hQ21 => exact fun _ _ _ h => h
          case hw21 => rfl
          case hy21 => (intro w hSw; (try dsimp only at hSw); go_simp; try (with_reducible rfl))
          try simp only [Act.put, List.setIfInBounds_toArray, List.set_cons_zero, List.set_cons_succ]
          refine' wpAnyH_take (i := 22) (oi := _) (v := _) ?hi22 (by kernel_rfl) (by kernel_rfl) (by kernel_rfl) ?hQ22 (Or.inl ⟨?hw22, ?hy22⟩) (by assumption) ?rest22
          case hi22 => (simp only [List.getElem?_toArray, List.getElem?_cons_succ, List.getElem?_cons_zero]; rfl)
          case hQ22 => exact fun _ _ _ h => h
          case hw22 => rfl
          case hy22 => (intro w hSw; (try dsimp only at hSw); go_simp; try (with_reducible rfl))
          try simp only [Act.put, List.setIfInBounds_toArray, List.set_cons_zero, List.set_cons_succ]
          refine' wpAnyH_take (i := 24) (oi := _) (v := _) ?hi24 (by kernel_rfl) (by kernel_rfl) (by kernel_rfl) ?hQ24 (Or.inl ⟨?hw24, ?hy24⟩) (by assumption) ?rest24
          case hi24 => (simp only [List.getElem?_toArray, List.getElem?_cons_succ, List.getElem?_cons_zero]; rfl)
          case hQ24 => exact fun _ _ _ h => h
          case hw24 => rfl
          case hy24 => (intro w hSw; (try dsimp only at hSw); go_simp; try (with_reducible rfl))
          try simp only [Act.put, List.setIfInBounds_toArray, List.set_cons_zero, List.set_cons_succ]
          refine wpAnyH_ready (rs := [23]) (by kernel_rfl) (by simp) ?_
          refine' AllReadyH.cons (o := _) ?ho23 (fun K hK => ?_) AllReadyH.nil
          case ho23 => (simp only [List.getElem?_toArray, List.getElem?_cons_succ, List.getElem?_cons_zero]; rfl)
          (go_simp; go_at_call 35; refine (copy_any _ _ (x.take N) (Reads.below HOB3.out (below_drewN (Below.refl _ w3) 1)) (by have := HLN.out; omega)).mono ?_; rintro e w5 ⟨v5, rfl, ho5, hb5⟩; rw [HLN.out] at ho5; obtain ⟨a5, k5, rfl, hk51, hk52⟩ := ho5.reads.shape; have g5 : Below w3.heap.size w3 w5 := (below_drewN (Below.refl _ w3) 1).trans hb5; have HO5 := Lib.hid ho5; have G5 := Lib.hid g5; have y5 := ((bcell g5).1 g' 0 hgl3).trans n3; have m5 := ((bcell g5).2 g' 0 hgl3).trans m3; have z5 := ((bcell g5).1 g 0 hgg3).trans c3; have x5 := ((bcell g5).1 h o hhl3).trans d3; have b5 := ((bcell g5).1 h (o + 1) hhl3).trans d31; have A55 := fun o : Obj => bcell ((Below.refl w5.heap.size w5).alloc (Nat.le_refl _) o); have y55 := fun o : Obj => ((A55 o).1 g' 0 (Nat.lt_of_lt_of_le hgl3 g5.size)).trans y5; have z55 := fun o : Obj => ((A55 o).1 g 0 (Nat.lt_of_lt_of_le hgg3 g5.size)).trans z5; have x55 := fun oo : Obj => ((A55 oo).1 h o (Nat.lt_of_lt_of_le hhl3 g5.size)).trans x5; have b55 := fun oo : Obj => ((A55 oo).1 h (o + 1) (Nat.lt_of_lt_of_le hhl3 g5.size)).trans b5; clear A55 ho5 hb5 g5; go_wp2_with fail)
          refine hK.out _ _ ?hs23 (fun hHeld => ?_)
          case hs23 => (simp [*])
          clear hK K
          try simp only [Act.put, List.setIfInBounds_toArray, List.set_cons_zero, List.set_cons_succ]
          refine' wpAnyH_take (i := 25) (oi := _) (v := _) ?hi25 (by kernel_rfl) (by kernel_rfl) (by kernel_rfl) ?hQ25 (Or.inl ⟨?hw25, ?hy25⟩) (by assumption) ?rest25
          case hi25 => (simp only [List.getElem?_toArray, List.getElem?_cons_succ, List.getElem?_cons_zero]; rfl)
          case hQ25 => exact fun _ _ _ h => h
          case hw25 => rfl
          case hy25 => (intro w hSw; (try dsimp only at hSw); go_simp; try (with_reducible rfl))
          try simp only [Act.put, List.setIfInBounds_toArray, List.set_cons_zero, List.set_cons_succ]
          refine wpAnyH_ready (rs := [26]) (by kernel_rfl) (by simp) ?_
          refine' AllReadyH.cons (o := _) ?ho26 (fun K hK => ?_) AllReadyH.nil
          case ho26 => (simp only [List.getElem?_toArray, List.getElem?_cons_succ, List.getElem?_cons_zero]; rfl)
          go_simp
          refine hK.out _ _ ?hs26 (fun hHeld => ?_)
          case hs26 => (simp [*])
          clear hK K
          try simp only [Act.put, List.setIfInBounds_toArray, List.set_cons_zero, List.set_cons_succ]
          refine wpAnyH_ready (rs := [27]) (by kernel_rfl) (by simp) ?_
          refine' AllReadyH.cons (o := _) ?ho27 (fun K hK => ?_) AllReadyH.nil
          case ho27 => (simp only [List.getElem?_toArray, List.getElem?_cons_succ, List.getElem?_cons_zero]; rfl)
          (refine step_append_owns_h (by rfl) _ _ 46 rfl w3.heap.size 76 i (.agg #[.string ⟨#[]⟩, .slice none 0 0, .int .i64 0]) 3 48 Tryz.underlying46 Hi.out Hz0.out Hz1.out Hz2.out rfl (.slice none 0 0) 0 [] rfl (Owns.nil _ _ _ _) (.slice (some ⟨w5.heap.size, 0, none⟩) 1 1) 1 [.string s, .slice a5 N k5, .int .i64 N] rfl (reads_three (heap_alloc_new w5 _)) (by simp [Value.oneCell']) 1 rfl [.string s, .slice a5 N k5, .int .i64 N] rfl (by omega) (by omega) (Nat.le_trans G5.out.size (by simp)) ?_; intro q kq w6 t1 t2 t3 t4 t5; have F6 : Fr (fun _ => False) w5 w6 := Fr.trans (S' := fun k => w5.heap.size ≤ k) (Fr.alloc (Fr.refl _ w5) _) (Fr.of_grown t4 (fun k hk _ => by simp [Value.ownBlock] at hk)) (fun k hk hh => absurd hk (by omega)); have y6 := F6.cell_some y5 id; have z6 := F6.cell_some z5 id; have x6 := F6.cell_some x5 id; have b6 := F6.cell_some b5 id; have m6 := (F6.frozen (o := 0) (Nat.lt_of_lt_of_le hgl3 G5.out.size) id).trans m5; have T1 := Lib.hid t1; have T6 := Lib.hid F6; clear t1 t4 t5 F6)
          refine hK.out _ _ ?hs27 (fun hHeld => ?_)
          case hs27 => (simp [*])
          clear hK K
          try simp only [Act.put, List.setIfInBounds_toArray, List.set_cons_zero, List.set_cons_succ]
          refine' wpAnyH_take (i := 28) (oi := _) (v := _) ?hi28 (by kernel_rfl) (by kernel_rfl) (by kernel_rfl) ?hQ28 (Or.inl ⟨?hw28, ?hy28⟩) (by assumption) ?rest28
          case hi28 => (simp only [List.getElem?_toArray, List.getElem?_cons_succ, List.getElem?_cons_zero]; rfl)
          case hQ28 => exact fun _ _ _ h => h
          case hw28 => rfl
          case hy28 => (intro w hSw; (try dsimp only at hSw); go_simp; try (with_reducible rfl))
          try simp only [Act.put, List.setIfInBounds_toArray, List.set_cons_zero, List.set_cons_succ]
          refine' wpAnyH_take (i := 29) (oi := _) (v := _) ?hi29 (by kernel_rfl) (by kernel_rfl) (by kernel_rfl) ?hQ29 (Or.inl ⟨?hw29, ?hy29⟩) (by assumption) ?rest29
          case hi29 => (simp only [List.getElem?_toArray, List.getElem?_cons_succ, List.getElem?_cons_zero]; rfl)
          case hQ29 => exact fun _ _ _ h => h
          case hw29 => rfl
          case hy29 => (intro w hSw; (try dsimp only at hSw); go_simp; try (with_reducible rfl))
          try simp only [Act.put, List.setIfInBounds_toArray, List.set_cons_zero, List.set_cons_succ]
          refine' wpAnyH_take (i := 30) (oi := _) (v := _) ?hi30 (by kernel_rfl) (by kernel_rfl) (by kernel_rfl) ?hQ30 (Or.inl ⟨?hw30, ?hy30⟩) (by assumption) ?rest30
          case hi30 => (simp only [List.getElem?_toArray, List.getElem?_cons_succ, List.getElem?_cons_zero]; rfl)
          case hQ30 => exact fun _ _ _ h => h
          case hw30 => rfl
          case hy30 => (intro w hSw; (try dsimp only at hSw); go_simp; try (with_reducible rfl))
          simp only [Act.put]
          refine wpAnyH_done (by kernel_rfl) ?_ _
          intro K hK
          go_simp
          refine hK _ _ ?_
          all_goals
            have F7 : Fr (fun k => k = g') w3 (w6.setCell ⟨g', 0, none⟩ (.slice q 1 kq)) := ((Fr.of_below (S := fun k => k = g') G5.out).trans T6.out (fun _ _ h => h.elim)).trans (SK _ _) (fun _ _ h => h)
            have F6 : Fr (fun _ => False) w3 w6 := (Fr.of_below (S := fun _ => False) G5.out).trans T6.out (fun _ _ h => h)
            have hd7 := ((HN3.out.fr F6 id).set0 (.slice q 1 kq)).1
            have hb7 : Hid (Below g' w (w6.setCell ⟨g', 0, none⟩ (.slice q 1 kq))) := Lib.hid (HB3.out.trans (F7.below (Nat.le_of_lt hgl3) (by rintro k rfl; exact Nat.le_refl _)))
            have hob6 : OB w6 (.slice a5 N k5) (x.take N) := (OB.of_owns HO5.out).fr T6.out (fun _ h => h.elim)
            have hfin : Hid (∃ h' o' cap', w.heap.size ≤ h' ∧ 1 ≤ cap' ∧ QD (w6.setCell ⟨g', 0, none⟩ (.slice q 1 kq)) g' (.slice (some ⟨h', o', none⟩) 1 cap') 0 (-1) false ∧ QFile (w6.setCell ⟨g', 0, none⟩ (.slice q 1 kq)) h' o' s (x.take N) N ∧ Below w.heap.size w (w6.setCell ⟨g', 0, none⟩ (.slice q 1 kq))) := Lib.hid (by
              rcases T1.out.2 with ⟨-, h0⟩ | ⟨h', off, cap', cur, he, hbh, hz, hc1, hc2, hc3, hcell⟩
              · omega
              · cases he
                have hq6 : QFile w6 h' off s (x.take N) N := ⟨cur, _, hz, by simpa using hcell 0 _ rfl, hcell 1 _ rfl, hcell 2 _ rfl, hob6⟩
                have hd6 := HN3.out.fr F6 id
                have hhg : ¬ h' = g' := tag_ne hq6.tag hd6.tag (by decide)
                have hq7 := fun y => hq6.fr (SK w6 y) hhg (fun k hk ht => tag_ne (hk ▸ ht) hd6.tag (by decide) rfl)
                have hw3 := HB3.out.size
                exact ⟨h', off, _, by omega, hc1, hd7, hq7 _, hg'.symm ▸ hb7.out⟩)
            clear F7 F6 hd7 hob6
            go_wp2_with fail
            go_roundg 1
            case measure => omega
            case rel => exact .inr ⟨rfl, rfl, hfin⟩
    · obtain ⟨h', o', cap', hf1, hf2, hf3, hf4, hf5⟩ := hfin.out
      obtain ⟨c9, -, -, -⟩ := (HD.out.fr (Fr.of_below (S := fun _ => False) hf5) id).cells
      go_wp2_with fail
      go_ret
      exact ⟨g', h', o', cap', rfl, by omega, hf1, hf2, hf3, hf4, hf5⟩
end Go.Proofs.YtpnlcogbahjnoaaGreat.F
