/- Crash: what is left of a disk. Conditions stand at each theorem. -/
import Derived.Test.YtpnlcogbahjnoaaGreatNames
namespace Go.Proofs.YtpnlcogbahjnoaaGreat.F
open Go.RowKit Go.Proofs.YtpnlcogbahjnoaaGreat.M Go.Sort
set_option linter.unusedVariables false

/-- how much of what does not last is left -/
def cutN (ks : List Int) (i : Nat) (bs : List UInt8) (l : Nat) : Nat := if h : i < ks.length then (max 0 (min ks[i] ((bs.length : Int) - l))).toNat else 0
theorem cutN_le (ks : List Int) (i : Nat) (bs : List UInt8) (l : Nat) (hl : l ≤ bs.length) : l + cutN ks i bs l ≤ bs.length := by
  unfold cutN
  split <;> omega
/-- the first j names are crashed -/
def part (C : Disk) (ss : List (List UInt8)) (ks : List Int) (j : Nat) : Disk := fun k => if k ∈ ss.take j then (C k).map (fun x => (x.1.take (x.2 + cutN ks (ss.idxOf k) x.1 x.2), x.2 + cutN ks (ss.idxOf k) x.1 x.2)) else none
def crashD (C : Disk) (ss : List (List UInt8)) (ks : List Int) : Disk := fun k => (C k).map (fun x => (x.1.take (x.2 + cutN ks (ss.idxOf k) x.1 x.2), x.2 + cutN ks (ss.idxOf k) x.1 x.2))
theorem part_zero (C : Disk) (ss : List (List UInt8)) (ks : List Int) : part C ss ks 0 = fun _ => none := by
  funext k
  simp [part]
theorem part_all (C : Disk) (ss : List (List UInt8)) (ks : List Int) (h : ∀ k, k ∈ ss ↔ (C k).isSome = true) : part C ss ks ss.length = crashD C ss ks := by
  funext k
  simp only [part, crashD, List.take_length]
  split
  · rfl
  · rename_i hk
    have : C k = none := by
      cases hc : C k with
      | none => rfl
      | some x => exact (hk ((h k).2 (by rw [hc]; rfl))).elim
    rw [this]; rfl
theorem part_succ (C : Disk) (ss : List (List UInt8)) (ks : List Int) (j : Nat) (hj : j < ss.length) (hn : ss.Nodup) (bs : List UInt8) (l : Nat) (hc : C ss[j] = some (bs, l)) :
    upd (part C ss ks j) ss[j] (some (bs.take (l + cutN ks j bs l), l + cutN ks j bs l)) = part C ss ks (j + 1) := by
  funext k
  have hi : ss.idxOf ss[j] = j := by
    have := List.Nodup.idxOf_getElem hn j hj
    exact this
  have hm : ∀ x, x ∈ ss.take (j + 1) ↔ x ∈ ss.take j ∨ x = ss[j] := fun x => by
    rw [List.take_succ_eq_append_getElem hj]
    exact List.mem_append.trans (or_congr Iff.rfl List.mem_singleton)
  simp only [upd, part]
  by_cases hk : k = ss[j]
  · subst hk
    rw [if_pos rfl, if_pos ((hm _).2 (Or.inr rfl)), hc, hi]
    rfl
  · rw [if_neg hk]
    by_cases h1 : k ∈ ss.take j
    · rw [if_pos h1, if_pos ((hm k).2 (Or.inl h1))]
    · rw [if_neg h1, if_neg (fun h => ((hm k).1 h).elim h1 hk)]

theorem info9x : ∃ i, Tryz.prog.info? 9 = some i ∧ i.size = 1 := by
  have h : (Tryz.prog.info? 9).map (·.size) = some 1 := by kernel_rfl
  cases hi : Tryz.prog.info? 9 with
  | none => simp [hi] at h
  | some i => exact ⟨i, rfl, by simpa [hi] using h⟩
theorem info3x : ∃ i, Tryz.prog.info? 3 = some i ∧ i.size = 1 := by
  have h : (Tryz.prog.info? 3).map (·.size) = some 1 := by kernel_rfl
  cases hi : Tryz.prog.info? 3 with
  | none => simp [hi] at h
  | some i => exact ⟨i, rfl, by simpa [hi] using h⟩

set_option maxRecDepth 100000 in
set_option maxHeartbeats 4000000 in
theorem crash_any (w : World) (f b m : Nat) (C : Disk) (steps fuse : Int) (dead : Bool) (h : Files w f b m C steps fuse dead) (hm : m ≤ 1099511627776) (hlen : ∀ k, (cb C k).length ≤ 1099511627776)
    (kv : Value) (ks : List Int) (hkv : Reads w 1 kv ks.length (ks.map (.int .i64))) (hks : ∀ x ∈ ks, -9223372036854775808 ≤ x ∧ x ≤ 9223372036854775807) :
    Calls Tryz.prog 19 #[.pointer (some ⟨f, 0, none⟩), kv] w fun e w' => ∃ f' b' ss, e = .returned (.pointer (some ⟨f', 0, none⟩)) ∧ w.heap.size ≤ f' ∧ w.heap.size ≤ b' ∧
      (∀ k, k ∈ ss ↔ (C k).isSome = true) ∧ ss.Nodup ∧ Files w' f' b' m (crashD C ss ks) 0 (-1) false ∧ Below w.heap.size w w' := by
  obtain ⟨ka, kcap, rfl, hkc, hkm⟩ := hkv.shape
  have c0 := cell_at h.at_ 0
  simp at c0
  have HF := Lib.hid h
  have HK := Lib.hid hkv
  have HL := Lib.hid hlen
  have HKS := Lib.hid hks
  obtain ⟨i9, hi9, hs9⟩ := info9x
  obtain ⟨i3, hi3, hs3⟩ := info3x
  have Hi3 := Lib.hid hi3
  have Hs3 := Lib.hid hs3
  obtain ⟨i5, hi5, hz0, hz1, hz2⟩ := info_parts info5
  have Hi9 := Lib.hid hi9
  have Hs9 := Lib.hid hs9
  have Hi5 := Lib.hid hi5
  have Hz1 := Lib.hid hz1
  clear h hkv hlen hks hi9 hs9 hi3 hs3 hi5 hz0 hz1 hz2
  go_enter Tryz.func19, Tryz.ntmps19
  go_wp2_with fail
  refine (new_any w).mono ?_
  rintro e w1 ⟨f', b', rfl, hf', hb', hN, hb1⟩
  have HN := Lib.hid hN
  clear hN
  go_wp2_with fail
  have h1 := HF.out.below hb1
  refine (names_any w1 f b m C steps fuse dead h1 hm).mono ?_
  rintro e w2 ⟨v, ss, rfl, hrd, hown, hmem, hnd, hlenm, hk64, hb2⟩
  obtain ⟨sa, scap, rfl, hsc, hsm⟩ := hrd.shape
  have hN2 := HN.out.below hb2
  have hB2 : Below w.heap.size w w2 := hb1.trans (hb2.mono hb1.size)
  have hbb : b' < w1.heap.size := by
    obtain ⟨D, hD, _⟩ := HN.out.map
    exact World.ownsMap.lt hD
  have HR := Lib.hid hrd
  have HO := Lib.hid hown
  have HM := Lib.hid hmem
  have HD := Lib.hid hnd
  have H64 := Lib.hid hk64
  have HN2 := Lib.hid hN2
  have HB2 := Lib.hid hB2
  have hs1 := hb1.size
  have hs2 := hb2.size
  clear hrd hown hmem hnd hk64 hN2 hB2 h1 HN hb1 hb2 c0
  go_wp2_with fail
  go_loopg [23] ss.length (fun k i wr => ∃ j : Nat, j ≤ ss.length ∧ k + j = ss.length ∧ i = .int .i64 j ∧ Fr (fun k => k = b') w2 wr ∧ Files wr f' b' j (part C ss ks j) 0 (-1) false)
  case atStart => exact ⟨0, by omega, by omega, rfl, Fr.refl _ _, by rw [part_zero]; exact HN2.out⟩
  case round =>
    obtain ⟨j, hj, hk, rfl, hFr, hFp⟩ := hrel
    by_cases hlt : j < ss.length
    · have hc : ∃ x, C ss[j] = some x := by
        have := (HM.out ss[j]).1 (List.getElem_mem hlt)
        exact Option.isSome_iff_exists.1 this
      obtain ⟨⟨bs, l⟩, hc⟩ := hc
      have hR2 : Reads wr 1 (.slice sa ss.length scap) ss.length (ss.map encStr) := HR.out.fr hFr (fun g hg hx hS => by
        have := HO.out g hg (by simpa using hx)
        omega)
      obtain ⟨g, o, hix, hcell, hown2⟩ := index_reads 71 9 Tryz.underlying71 _ Hi9.out wr Hs9.out _ _ _ hR2 j (encStr ss[j]) (by simp [hlt])
      have hFw : Files wr f b m C steps fuse dead := (HF.out.below HB2.out).fr hFr (fun e => by have := lt_of_obj HF.out.at_; omega) (fun e => by
        obtain ⟨D, hD, _⟩ := HF.out.map
        have := World.ownsMap.lt hD
        omega) (by rintro g rfl; exact HN2.out.not_tag _)
      obtain ⟨D, hD, hH⟩ := hFw.map
      have hs64 : (ByteArray.mk ss[j].toArray).size ≤ maxLen := by
        have := H64.out ss[j] (List.getElem_mem hlt)
        simpa [ByteArray.size] using this
      obtain ⟨ca, ccap, lk1, _, hob, hcl, hcc, hcm⟩ := look hD hH (ByteArray.mk ss[j].toArray) hs64
      have ek : (ByteArray.mk ss[j].toArray).data.toList = ss[j] := by simp
      have e1 : cb C ss[j] = bs := by simp [cb, hc]
      have e2 : cl C ss[j] = l := by simp [cl, hc]
      rw [ek, e1] at lk1 hob hcc hcl
      rw [e2] at lk1 hcl
      have cf1 := cell_at hFw.at_ 1
      simp at cf1
      have hln := HL.out ss[j]
      rw [e1] at hln
      have HC := Lib.hid hc
      have HOB := Lib.hid hob
      have HFp := Lib.hid hFp
      have HFr := Lib.hid hFr
      have HFw := Lib.hid hFw
      have hcell2 : wr.cell? ⟨g, o, none⟩ = some (.string (ByteArray.mk ss[j].toArray)) := hcell
      have hstr : ∃ s, s = ByteArray.mk ss[j].toArray := ⟨_, rfl⟩
      obtain ⟨s, hs⟩ := hstr
      rw [← hs] at hcell2 lk1 hs64 ek
      clear hD hH hob hc hFp hFr hFw hcell hR2 e1 e2 hs
      go_upto_if 37 with fail
      have hA : Below wr.heap.size wr (wr.alloc (.cells #[.slice ca bs.length ccap, .int .i64 l] 74)) := (Below.refl _ _).alloc (Nat.le_refl _) _
      have z4 := heap_alloc_new wr (.cells #[.slice ca bs.length ccap, .int .i64 l] 74)
      have hsz : (wr.alloc (.cells #[.slice ca bs.length ccap, .int .i64 l] 74)).heap.size = wr.heap.size + 1 := by simp
      generalize wr.alloc (.cells #[.slice ca bs.length ccap, .int .i64 l] 74) = w4 at *
      obtain ⟨cz0, cz1⟩ := two_cells z4
      have HA := Lib.hid hA
      have Z4 := Lib.hid z4
      clear hA z4
      go_cut [9] from 24 to 68 (fun s9 wx => s9 = .int .i64 (cutN ks j bs l) ∧ ∃ n, wx = w4.drewN n)
      case first =>
        by_cases hjk : j < ks.length
        · have hR4 : Reads w4 1 (.slice ka ks.length kcap) ks.length (ks.map (.int .i64)) := (HK.out.old HB2.out (Nat.le_refl _)).fr ((HFr.out.trans (Fr.of_below HA.out) (fun _ _ h => h))) (fun g hg hx hS => by
            have := HK.out.lt hx g hg
            omega)
          obtain ⟨g3, o3, hix3, hcell3, _⟩ := index_reads 23 3 Tryz.underlying23 _ Hi3.out w4 Hs3.out _ _ _ hR4 j (.int .i64 ks[j]) (by simp [hjk])
          have hkb := HKS.out ks[j] (List.getElem_mem hjk)
          have ec : cutN ks j bs l = (max 0 (min ks[j] ((bs.length : Int) - l))).toNat := by simp [cutN, hjk]
          have EC := Lib.hid ec
          clear ec hR4
          go_wp2_with fail
          go_quiet (fail)
          go_wp2_with fail
          go_meet
          case rel => exact ⟨by rw [EC.out]; congr 1; omega, _, rfl⟩
        · have ec : cutN ks j bs l = 0 := by simp [cutN, hjk]
          have EC := Lib.hid ec
          clear ec
          go_wp2_with fail
          go_meet
          case rel => exact ⟨by rw [EC.out]; rfl, 0, rfl⟩
      case rest =>
        obtain ⟨rfl, nd, rfl⟩ := hcut
        have hcut := cutN_le ks j bs l hcl
        generalize hcn : cutN ks j bs l = cn at *
        have HCN := Lib.hid hcn
        clear hcn
        obtain ⟨ta, tcap, hsl, hrt, _, htm, htc⟩ := slice_to 52 5 Tryz.underlying52 i5 Hi5.out w4 1 Hz1.out _ _ _ (HOB.out.1.below HA.out) (l + cn) hcut
        have ecast : ((l + cn : Nat) : Int) = (l : Int) + cn := by omega
        rw [ecast] at hsl
        have htl : (bs.take (l + cn)).length = l + cn := by simp; omega
        have hbt : Bytes w4 (.slice ta (l + cn) tcap) (bs.take (l + cn)) := by
          unfold Bytes
          rw [htl, List.map_take]
          simpa using hrt
        have HBT := Lib.hid hbt
        have HEC := Lib.hid ecast
        have HTL := Lib.hid htl
        have cq1 := cell_at (HFp.out.below HA.out).at_ 1
        simp at cq1
        have nz : ¬ wr.heap.size = b' := fun e => by
          obtain ⟨D, hD, _⟩ := HFp.out.map
          have := World.ownsMap.lt hD
          omega
        have hlz : wr.heap.size < w4.heap.size := by omega
        have hlf : f' < w4.heap.size := Nat.lt_of_lt_of_le (lt_of_obj HFp.out.at_) HA.out.size
        clear hrt htc htm hbt htl ecast hix hcell2 lk1 cf1
        have hwr : IntKind.i64.wrap ((l : Int) + (cn : Int)) = (l : Int) + (cn : Int) := IntWalk.i64_in _ (by omega)
        go_upto_region 11 with fail
        go_region_held3 (fun w' => w'.cell? ⟨f', 1, none⟩ = some (.map (some b')) ∧ w'.cell? ⟨wr.heap.size, 0, none⟩ = some (.slice ca bs.length ccap) ∧ w'.cell? ⟨wr.heap.size, 1, none⟩ = some (.int .i64 l)) (simp [*]) (first | (go_at_call 33; refine (clone_any (w4.drewN nd).drew _ (bs.take (l + cn)) HBT.out (by rw [HTL.out]; omega)).mono ?_; rintro e w5 ⟨v5, rfl, ho5, hb5⟩; rw [HTL.out] at ho5; obtain ⟨va5, vc5, rfl, hv51, hv52⟩ := ho5.reads.shape; obtain ⟨w6, hrun, hF6, G6, E6⟩ := files_put' HFp.out (((Fr.of_below HA.out).drewN _).drew.trans (Fr.of_below hb5) (fun _ _ h => h)) s hs64 (by omega) (.slice va5 (l + cn) vc5) (bs.take (l + cn)) (l + cn) (by rw [HTL.out]; exact Nat.le_refl _) ho5.ob; rw [HEC.out] at hrun; have q1 := ((hb5.cell (p := ⟨f', 1, none⟩) hlf).trans cq1); have q2 := ((hb5.cell (p := ⟨wr.heap.size, 0, none⟩) hlz).trans cz0); have q3 := ((hb5.cell (p := ⟨wr.heap.size, 1, none⟩) hlz).trans cz1); have r1 := E6.cell_some q1 HFp.out.f_ne; have r2 := E6.cell_some q2 nz; have r3 := E6.cell_some q3 nz; have HF6 := Lib.hid hF6; have K6 := Lib.hid (Fr.trans (S' := fun k => k = b') (Fr.trans (S' := fun k => k = b') HFr.out (((Fr.of_below HA.out).drewN nd).drew.trans (Fr.of_below (S := fun k => k = b') hb5) (fun _ _ h => h)) (fun _ _ h => h)) E6 (fun _ _ h => h)); clear hF6 G6 E6 ho5 hb5))
        go_wp2_with fail
        go_roundg (ss.length - (j + 1))
        case measure => omega
        case rel =>
          refine ⟨j + 1, by omega, by omega, by simp, K6.out, ?_⟩
          have h6 := HF6.out
          rw [ek, ← HCN.out, part_succ C ss ks j hlt HD.out bs l HC.out] at h6
          exact h6
    · have hjn : j = ss.length := by omega
      subst hjn
      have HFp := Lib.hid hFp
      have HFr := Lib.hid hFr
      clear hFp hFr
      go_wp2_with fail
      go_ret
      have h6 := HFp.out
      rw [part_all C ss ks HM.out] at h6
      exact ⟨_, b', ss, rfl, hf', hb', HM.out, HD.out, h6.mono hlenm, HB2.out.trans (HFr.out.below HB2.out.size (by rintro x rfl; exact hb'))⟩
end Go.Proofs.YtpnlcogbahjnoaaGreat.F
