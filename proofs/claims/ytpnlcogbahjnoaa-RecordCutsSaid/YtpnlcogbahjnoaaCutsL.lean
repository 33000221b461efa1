/- RecordCuts answers true, walked. Conditions stand at each theorem. -/
import Derived.Test.YtpnlcogbahjnoaaCuts
import Derived.Test.YtpnlcogbahjnoaaWholeL
namespace Go.Proofs.Ytpnlcogbahjnoaa.F
open Go.RowKit Go.Proofs.Ytpnlcogbahjnoaa.M
set_option linter.unusedVariables false

theorem infoInt : (Try.prog.info? 3).map (fun i => (i.zero, i.size, i.bytes)) = some (some (.int .i64 0), 1, 8) := by kernel_rfl
/-- the ends of the first lists -/
def ends (ls : List (List (List UInt8))) (n : Nat) : List Value := (List.range (n + 1)).map fun j => .int .i64 (endOf ls j : Nat)
theorem ends_len (ls : List (List (List UInt8))) (n : Nat) : (ends ls n).length = n + 1 := by simp [ends]
theorem ends_succ (ls : List (List (List UInt8))) (n : Nat) : ends ls (n + 1) = ends ls n ++ [.int .i64 (endOf ls (n + 1) : Nat)] := by
  rw [ends, List.range_succ, List.map_append]
  rfl
theorem ends_at (ls : List (List (List UInt8))) (n j : Nat) (hj : j ≤ n) : (ends ls n)[j]? = some (.int .i64 (endOf ls j : Nat)) := by
  rw [ends, List.getElem?_map, List.getElem?_range (by omega)]
  rfl
theorem ends_zero {w : World} {g base : Nat} (h : w.heap[g]? = some (.cells #[.int .i64 0] 3 (0, 0))) (hb : base ≤ g) (ls : List (List (List UInt8))) : Owns w base 3 1 (.slice (some ⟨g, 0, none⟩) 1 1) 1 (ends ls 0) := by
  refine ⟨rfl, .inr ⟨g, 0, 1, _, rfl, hb, h, Nat.le_refl _, by decide, by simp, fun j u hj => ?_⟩⟩
  rw [show ends ls 0 = [.int .i64 0] by simp [ends, endOf_zero]] at hj
  rw [Nat.zero_add]
  simpa using hj
theorem owns_tag {w : World} {base : Nat} {e : TypeId} {v : Value} {n : Nat} {xs : List Value} (h : Owns w base e 1 v n xs) {g : Nat} (hg : v.ownBlock = some g) : Tag w g e ∧ base ≤ g := by
  rcases h.2 with ⟨rfl, _⟩ | ⟨g', off, cap, cur, rfl, hb, hh, r⟩
  · simp [Value.ownBlock] at hg
  · simp only [Value.ownBlock, Option.some.injEq] at hg
    subst hg
    exact ⟨⟨_, _, hh⟩, hb⟩

set_option maxRecDepth 100000 in
set_option maxHeartbeats 2000000 in
theorem cuts_yes (W : World) (v : Value) (ls : List (List (List UInt8))) (h : LLs W v ls) (cut : Int) (hb1 : -9223372036854775808 ≤ cut) (hb2 : cut ≤ 9223372036854775807) (vm : Value) (more : List UInt8) (hvm : Bytes W vm more) :
    Calls Try.prog 10 #[v, .int .i64 cut, vm] W fun e w' => e = .returned (.bool true) ∧ Below W.heap.size W w' := by
  obtain ⟨a, cap, rfl, hc, hm⟩ := h.shape
  obtain ⟨ma, mcap, rfl, hmc, hmm⟩ := hvm.shape
  obtain ⟨ti, hi, hz0, hz1, hz2⟩ := info_parts info23
  obtain ⟨ii, gi, gz0, gz1, gz2⟩ := info_parts infoInt
  have Hi := Lib.hid hi
  have Hz0 := Lib.hid hz0
  have Hz1 := Lib.hid hz1
  have Hz2 := Lib.hid hz2
  have Gi := Lib.hid gi
  have Gz0 := Lib.hid gz0
  have Gz1 := Lib.hid gz1
  have Gz2 := Lib.hid gz2
  have HL := Lib.hid h
  have HM := Lib.hid hvm
  clear h hvm hi hz0 hz1 hz2 gi gz0 gz1 gz2
  go_enter Try.func10, Try.ntmps10
  go_wp2_with fail
  refine (awake13_yes W).mono ?_
  rintro e w0 ⟨rfl, hb0⟩
  have B0 := Lib.hid hb0
  have HL0 : Hid (LLs w0 (.slice a ls.length cap) ls) := Lib.hid (HL.out.old hb0)
  clear hb0
  go_wp2_with fail
  refine (roomR_any w0 _ ls HL0.out).mono ?_
  rintro e w0' ⟨⟨r, rfl, hroom⟩, rfl⟩
  cases r with
  | false =>
    go_wp2_with fail
    go_ret
    exact ⟨rfl, B0.out⟩
  | true =>
    obtain ⟨h100, hsm⟩ := hroom rfl
    have HSM := Lib.hid hsm
    clear hroom hsm HL0
    by_cases hmore : 200 < more.length
    · go_wp2_with fail
      go_ret
      exact ⟨rfl, B0.out⟩
    go_wp2_with fail
    refine (new_any w0').mono ?_
    rintro e w1 ⟨f, b, rfl, hf0, hb0, h1, hb1⟩
    have H1 := Lib.hid h1
    have B1 := Lib.hid (B0.out.trans (hb1.mono B0.out.size))
    have hf0 : W.heap.size ≤ f := Nat.le_trans B0.out.size hf0
    have hb0 : W.heap.size ≤ b := Nat.le_trans B0.out.size hb0
    clear h1 hb1
    go_wp2_with fail
    refine (lj_create B1.out hf0 hb0 H1.out).mono ?_
    rintro e w2 ⟨p, rfl, h2⟩
    have H2 := Lib.hid h2
    clear h2 H1 B1
    go_wp2_with fail
    have hA : Below w2.heap.size w2 (w2.alloc (.cells #[.int .i64 0] 3)) := (Below.refl _ _).alloc (Nat.le_refl _) _
    have HE0 : Hid (Owns (w2.alloc (.cells #[.int .i64 0] 3)) W.heap.size 3 1 (.slice (some ⟨w2.heap.size, 0, none⟩) 1 1) 1 (ends ls 0)) := Lib.hid (ends_zero (heap_alloc_new w2 _) H2.out.low.size ls)
    have HJ0 := Lib.hid (H2.out.below hA)
    clear hA
    go_loopg [10, 11] ls.length (fun k s10 s11 wr => ∃ i : Nat, i ≤ ls.length ∧ k + i = ls.length ∧ s11 = .int .i64 i ∧ Hid (LJ W wr f b p (ls.take i)) ∧ Hid (Owns wr W.heap.size 3 1 s10 (i + 1) (ends ls i)))
    case atStart => exact ⟨0, by omega, by omega, rfl, by simpa using HJ0, HE0⟩
    case round =>
      obtain ⟨i, hi, hk, rfl, hj, he⟩ := hrel
      obtain ⟨ea, ecap, rfl, he1, he2⟩ := he.out.reads.shape
      by_cases hlt : i < ls.length
      · obtain ⟨g, o, u, hix, hcell, hru⟩ := lls_ix HL.out i hlt
        have hc0 := ((bcell hj.out.low).1 g o (World.block_lt_of_cell? W _ hcell)).trans hcell
        obtain ⟨ua, ucap, hue, hu1, hu2⟩ := hru.shape
        have hsl : Small ls[i] := HSM.out _ (List.getElem_mem hlt)
        have htk : ls.take (i + 1) = ls.take i ++ [ls[i]] := List.take_succ_eq_append_getElem hlt
        have HTK := Lib.hid htk
        have HSL := Lib.hid hsl
        have HRU := Lib.hid hru
        clear hcell hru hsl htk
        generalize ls[i] = l at *
        subst hue
        go_wp2_with fail
        refine (lj_app2 hj.out (by simp; omega) _ l HSL.out HRU.out).mono ?_
        rintro e w3 ⟨rfl, h3, hfr3⟩
        have he3 := he.out.fr hfr3 (by
          intro q hq hh
          have ht := (owns_tag he.out hq).1
          obtain ⟨m, st, hF, -⟩ := hj.out.disk
          obtain ⟨cur, fz, hz⟩ := ht
          rcases hh with hh | hh | hh
          · exact files_apart hF 3 (by decide) q hh ⟨cur, fz, hz⟩
          · exact Tag.not hz (by decide) hh
          · exact Tag.not hz (by decide) hh)
        rw [← HTK.out] at h3
        obtain ⟨m3, st3, hF3, hm3, hs30, hs31⟩ := h3.disk
        have hfl3 := fileOf_len _ h3.fit
        have hx3 : (fileOf (ls.take (i + 1))).length = endOf ls (i + 1) := rfl
        have hle3 : (ls.take (i + 1)).length ≤ 100 := by simp; omega
        have H3 := Lib.hid h3
        have HF3 := Lib.hid hF3
        have HE3 := Lib.hid he3
        have hex : endOf ls (i + 1) ≤ 2000000 := by omega
        have hxl : (fileOf (ls.take (i + 1))).length ≤ 1099511627776 := by omega
        have hm3' : m3 ≤ 1099511627776 := by omega
        clear h3 hF3 he3 hfr3 hfl3 hle3 hm3 hs31 hs30
        go_wp2_with fail
        refine (read1 w3 f b m3 st3 (-1) false [114] _ _ HF3.out hxl ⟨#[114]⟩ rfl (by decide)).mono ?_
        rintro e w4 ⟨v4, rfl, h4, hb4⟩
        obtain ⟨a4, k4, hv4, -, -⟩ := h4.reads.shape
        rw [hx3] at hv4
        subst hv4
        have H4 := Lib.hid (H3.out.below hb4)
        have HE4 := Lib.hid (HE3.out.fr (Fr.of_below (S := fun _ => False) hb4) (fun _ _ h => h))
        clear h4 hb4 HF3 hx3 hxl
        generalize hN : endOf ls (i + 1) = N at *
        go_wp2_with (at_builtin; refine wpList_append_owns rfl _ _ 54 rfl W.heap.size 3 ii (.int .i64 0) 1 8 Try.underlying54 Gi.out Gz0.out Gz1.out Gz2.out rfl (.slice ea (i + 1) ecap) (i + 1) (ends ls i) rfl (HE4.out.fr (Fr.alloc (Fr.refl (fun _ => False) _) _) (fun _ _ => id)) _ 1 [.int .i64 N] rfl (Reads.one (heap_alloc_new w4 _)) (by simp [Value.oneCell']) (i + 1 + 1) rfl (ends ls i ++ [.int .i64 N]) rfl (by omega) (by omega) (Nat.le_trans H4.out.low.size (by simp)) ?_; intro q kq w5 t1 t2 t3 t4 t5; have T1 := Lib.hid t1; have T4 := Lib.hid t4; clear t1 t4 t5)
        have F5 : Fr (fun k => (Value.slice ea (i + 1) ecap).ownBlock = some k) w4 w5 := Fr.trans (S := fun k => (Value.slice ea (i + 1) ecap).ownBlock = some k) (Fr.alloc (Fr.refl _ _) _) (Fr.of_grown (S := fun k => (Value.slice ea (i + 1) ecap).ownBlock = some k) T4.out (fun k hk _ => hk)) (fun _ _ h => h)
        have HJ5 : Hid (LJ W w5 f b p (ls.take (i + 1))) := by
          refine Lib.hid ?_
          have hnt : ∀ g, (Value.slice ea (i + 1) ecap).ownBlock = some g → Tag w4 g 3 ∧ W.heap.size ≤ g := fun g hg => owns_tag HE4.out hg
          obtain ⟨m5, st5, hF5, hr5⟩ := H4.out.disk
          refine ⟨H4.out.low.trans (F5.below H4.out.low.size (fun k hk => (hnt k hk).2)), hf0, hb0, ⟨m5, st5, hF5.fr F5 (fun hh => files_apart hF5 3 (by decide) f (.inl rfl) (hnt f hh).1) (fun hh => files_apart hF5 3 (by decide) b (.inr rfl) (hnt b hh).1) (fun g hg => by obtain ⟨⟨cur, fz, hz⟩, -⟩ := hnt g hg; exact Tag.not hz (by decide)), hr5⟩, H4.out.log.fr F5 (fun hh => by obtain ⟨⟨cur, fz, hz⟩, -⟩ := hnt p hh; exact Tag.not hz (by decide) H4.out.log.tag) (fun g hg => by obtain ⟨⟨cur, fz, hz⟩, -⟩ := hnt g hg; exact ⟨Tag.not hz (by decide), Tag.not hz (by decide)⟩), H4.out.fit⟩
        have HE5 : Hid (Owns w5 W.heap.size 3 1 (.slice q (i + 1 + 1) kq) (i + 1 + 1) (ends ls (i + 1))) := Lib.hid (by rw [ends_succ, hN]; exact T1.out)
        clear F5
        go_roundg (ls.length - (i + 1))
        case measure => omega
        case rel => exact ⟨i + 1, by omega, by omega, by simp, HJ5, HE5⟩
      · have hin : i = ls.length := by omega
        subst hin
        rw [List.take_length] at hj
        obtain ⟨m, st, hF, hm2, hs0, hs1⟩ := hj.out.disk
        have hfl := fileOf_len ls HSM.out
        have HF := Lib.hid hF
        have BW := Lib.hid hj.out.low
        have HE := Lib.hid he.out
        have hm3 : m ≤ 300 := by omega
        have hs3 : st ≤ 300 := by omega
        clear hF hj he hm2 hs1
        obtain ⟨L, hL⟩ : ∃ L, L = (fileOf ls).length := ⟨_, rfl⟩
        rw [← hL] at hfl
        have HLL := Lib.hid hL
        clear hL
        go_wp2_with fail
        refine (read1 wr f b m st (-1) false [114] (fileOf ls) _ HF.out (by rw [← HLL.out]; omega) ⟨#[114]⟩ rfl (by decide)).mono ?_
        rintro e w3 ⟨v3, rfl, h3, hb3⟩
        obtain ⟨a3, k3, hv3, -, -⟩ := h3.reads.shape
        rw [← HLL.out] at hv3
        subst hv3
        have HF3 := Lib.hid (HF.out.below hb3)
        have B3 := Lib.hid (BW.out.trans (hb3.mono BW.out.size))
        have HE3 := Lib.hid (HE.out.fr (Fr.of_below (S := fun _ => False) hb3) (fun _ _ h => h))
        obtain ⟨q, hq, hqe, hr1, hr2⟩ := tmod_nat cut (L + 1) (by omega)
        have e8 : ((L + 1 : Nat) : Int) = (L : Int) + 1 := by omega
        rw [e8] at hqe hr1 hr2
        have hw1 : IntKind.i64.wrap ((L : Int) + 1) = (L : Int) + 1 := IntWalk.i64_in _ (by omega)
        have hw2 : IntKind.i64.wrap (Int.tmod cut ((L : Int) + 1) + (L : Int)) = Int.tmod cut ((L : Int) + 1) + (L : Int) := IntWalk.i64_in _ (by omega)
        have hw3 : IntKind.i64.wrap (Int.tmod cut ((L : Int) + 1) + (L : Int) + 1) = Int.tmod cut ((L : Int) + 1) + (L : Int) + 1 := IntWalk.i64_in _ (by omega)
        have hqe2 : Int.tmod (Int.tmod cut ((L : Int) + 1) + (L : Int) + 1) ((L : Int) + 1) = (q : Nat) := by rw [Int.add_assoc]; exact hqe
        have hqL : q ≤ L := by omega
        clear h3 hb3 HF BW HE hqe
        go_wp2_with fail
        refine (trunc_f w3 f b m st [114] (fileOf ls) _ HF3.out ⟨#[114]⟩ rfl rfl q (by rw [← HLL.out]; exact hqL) (by rw [← HLL.out]; omega) (by omega) hs0 (by omega)).mono ?_
        rintro e w4 ⟨rfl, h4, f4⟩
        rw [← HLL.out, Nat.min_eq_right hqL] at h4
        obtain ⟨K, hK, hKiff, hKt, hKs⟩ := pick_all ls (fun l hl => (HSM.out l hl).fits) q (by rw [← HLL.out]; exact hqL)
        have HF4 := Lib.hid h4
        have B4 := Lib.hid (B3.out.trans (f4.below B3.out.size (by rintro k (rfl | rfl) <;> assumption)))
        have HE4 := Lib.hid (HE3.out.fr f4 (fun g hg hh => files_apart HF3.out 3 (by decide) g hh (owns_tag HE3.out hg).1))
        have HKI := Lib.hid hKiff
        have HKT := Lib.hid hKt
        have HKS := Lib.hid hKs
        clear h4 f4 hKiff hKt hKs HF3 B3 HE3
        go_wp2_with fail
        go_loopg [16, 17] ls.length (fun k s16 s17 wr => ∃ i : Nat, i ≤ ls.length ∧ k + i = ls.length ∧ s17 = .int .i64 i ∧ Hid (SRecs W wr s16 (ls.take (min i K)).flatten) ∧ Hid (Files wr f b (m + 1) (one [114] ((fileOf ls).take q) q) (st + 1) (-1) false) ∧ Hid (Owns wr W.heap.size 3 1 (.slice ea (ls.length + 1) ecap) (ls.length + 1) (ends ls ls.length)) ∧ Hid (Below W.heap.size W wr))
        case atStart => exact ⟨0, by omega, by omega, rfl, Lib.hid (by simpa using SRecs.nil _ _), HF4, HE4, B4⟩
        case round =>
          obtain ⟨i, hi, hk, rfl, hw, hf, he, hB⟩ := hrel
          obtain ⟨sa, scap, hsv, hsc1, hsc2⟩ := hw.out.shape
          have hfl2 := flat_len (ls.take (min i K)) (fun l hl => HSM.out l (List.mem_of_mem_take hl))
          have htl : (ls.take (min i K)).length ≤ 100 := by simp; omega
          obtain ⟨N, hN⟩ : ∃ N, N = (ls.take (min i K)).flatten.length := ⟨_, rfl⟩
          rw [← hN] at hsv hsc1 hfl2
          have HN := Lib.hid hN
          have hN5 : N ≤ 5000 := by omega
          subst hsv
          clear hN hfl2 htl
          by_cases hlt : i < ls.length
          · obtain ⟨g, o, u, hix, hcell, hru⟩ := lls_ix HL.out i hlt
            have hc0 := ((bcell hB.out).1 g o (World.block_lt_of_cell? W _ hcell)).trans hcell
            obtain ⟨ua, ucap, hue, hu1, hu2⟩ := hru.shape
            have hsl : Small ls[i] := HSM.out _ (List.getElem_mem hlt)
            obtain ⟨eg, eo, eix, ecell, -⟩ := index_reads 54 3 Try.underlying54 ii Gi.out wr Gz1.out _ _ _ he.out.reads (i + 1) _ (ends_at ls ls.length (i + 1) (by omega))
            have eix' : ∀ (k : IntKind) (w' : World), (Instr.indexAt 54 (.slice ea (ls.length + 1) ecap) (.int k ((i : Int) + 1))).run Try.prog w' = .ok (.pointer (some ⟨eg, eo, none⟩)) w' := eix
            have hiff := HKI.out (i + 1) (by omega)
            have hll := hsl.1
            have HTK : Hid (ls.take (i + 1) = ls.take i ++ [ls[i]]) := Lib.hid (List.take_succ_eq_append_getElem hlt)
            have HRU := Lib.hid hru
            clear hcell hru hsl eix
            generalize ls[i] = l at *
            subst hue
            generalize endOf ls (i + 1) = E at *
            by_cases hEq : E ≤ q
            · have hiK : i + 1 ≤ K := hiff.1 hEq
              have hEi : (E : Int) ≤ (q : Int) := by omega
              have hmin : min i K = i := by omega
              have hmin2 : min (i + 1) K = i + 1 := by omega
              obtain ⟨vs, hvs, hrv⟩ := hw.out
              rw [← HN.out] at hvs
              obtain ⟨us, hus, hru⟩ := HRU.out
              have HVS := Lib.hid hvs
              have HUS := Lib.hid (hus.old hB.out (Nat.le_refl _))
              have HRV := Lib.hid (RecVals.append hrv hru)
              have HRO := Lib.hid hru.one
              have HMN := Lib.hid hmin
              have HMN2 := Lib.hid hmin2
              clear hvs hus hrv hru hmin hmin2
              go_wp2_with (at_builtin; refine wpList_append_owns rfl _ _ 23 rfl W.heap.size 22 ti (.slice none 0 0) 1 24 Try.underlying23 Hi.out Hz0.out Hz1.out Hz2.out rfl (.slice sa N scap) N vs rfl HVS.out (.slice ua l.length ucap) l.length us rfl HUS.out HRO.out (N + l.length) rfl (vs ++ us) rfl (by omega) (by omega) hB.out.size ?_; intro q5 kq w5 t1 t2 t3 t4 t5; have T1 := Lib.hid t1; have T4 := Lib.hid t4; clear t1 t4 t5)
              have F5 : Fr (fun k => (Value.slice sa N scap).ownBlock = some k) wr w5 := Fr.of_grown (S := fun k => (Value.slice sa N scap).ownBlock = some k) T4.out (fun k hk _ => hk)
              have tg5 : ∀ g, (Value.slice sa N scap).ownBlock = some g → Tag wr g 22 ∧ W.heap.size ≤ g := fun g hg => hw.out.tag hg
              have nt5 : ∀ t, t ≠ 22 → ∀ g, (Value.slice sa N scap).ownBlock = some g → ¬ Tag wr g t := by
                intro t ht g hg hh
                exact tag_ne (w := wr) (tg5 g hg).1 hh (fun e => ht e.symm) rfl
              have hf5 := Lib.hid (hf.out.fr F5 (fun hh => files_apart hf.out 22 (by decide) f (.inl rfl) (tg5 f hh).1) (fun hh => files_apart hf.out 22 (by decide) b (.inr rfl) (tg5 b hh).1) (nt5 _ (by decide)))
              have he5 := Lib.hid (he.out.fr F5 (fun g hg hh => nt5 _ (by decide) g hh (owns_tag he.out hg).1))
              have hB5 := Lib.hid (hB.out.trans (F5.below hB.out.size (fun k hk => (tg5 k hk).2)))
              have hw5 : Hid (SRecs W w5 (.slice q5 (N + l.length) kq) (ls.take (min (i + 1) K)).flatten) := by
                refine Lib.hid ?_
                have hel : (ls.take (min (i + 1) K)).flatten = (ls.take (min i K)).flatten ++ l := by rw [HMN.out, HMN2.out, HTK.out]; simp
                rw [hel]
                exact ⟨vs ++ us, by rw [List.length_append, ← HN.out]; exact T1.out, HRV.out⟩
              clear F5 tg5 nt5
              go_roundg (ls.length - (i + 1))
              case measure => omega
              case rel => exact ⟨i + 1, by omega, by omega, by simp, hw5, hf5, he5, hB5⟩
            · have hiK : ¬ i + 1 ≤ K := fun hh => hEq (hiff.2 hh)
              have hEi : ¬ ((E : Int) ≤ (q : Int)) := by omega
              have hmin : min (i + 1) K = min i K := by omega
              have HW : Hid (SRecs W wr (.slice sa N scap) (ls.take (min (i + 1) K)).flatten) := by rw [hmin]; exact hw
              clear hmin
              go_wp2_with fail
              go_roundg (ls.length - (i + 1))
              case measure => omega
              case rel => exact ⟨i + 1, by omega, by omega, by simp, HW, hf, he, hB⟩
          · have hmin : min i K = K := by omega
            rw [hmin] at hw HN
            clear hmin
            go_wp2_with fail
            refine (cut_open HSM.out h100 (by rw [← HLL.out]; exact hqL) hK ((HKI.out K hK).2 (Nat.le_refl _)) HKT.out HKS.out hf.out (by omega) (by omega) (by omega)).mono ?_
            rintro e w5 ⟨p5, rfl, hl5, ⟨m5, st5, hm5, hs50, hs51, hF5⟩, hfr5⟩
            have S5 := Lib.hid (hw.out.fr hfr5 (fun g hg hh => files_apart hf.out 22 (by decide) g hh (hw.out.tag hg).1))
            have B5 := Lib.hid (hB.out.trans (hfr5.below hB.out.size (by rintro k (rfl | rfl) <;> assumption)))
            have HF5 := Lib.hid hF5
            have HL5 := Lib.hid hl5
            have HTG5 : Hid (∀ g, (Value.slice sa N scap).ownBlock = some g → g < wr.heap.size) := Lib.hid (fun g hg => (hw.out.tag hg).1.lt)
            have hWr := hB.out.size
            have hKsm : ∀ l ∈ ls.take K, Small l := fun l hl => HSM.out l (List.mem_of_mem_take hl)
            have HKsm := Lib.hid hKsm
            have hkl := fileOf_len _ hKsm
            have hks : (ls.take K).length ≤ 100 := by simp; omega
            clear hl5 hF5 hfr5 hw hf he hB hKsm
            generalize ls.take K = ks at *
            have hN5' := HN.out
            have hrl : ks.flatten.length ≤ 1073741824 := by rw [← hN5']; omega
            have HRL : Hid (∀ (i : Nat) (r : List UInt8), ks.flatten[i]? = some r → r.length ≤ 1099511627776) := Lib.hid (by
              intro i r hi
              obtain ⟨l', h1, h2⟩ := List.mem_flatten.1 (List.mem_of_getElem? hi)
              have := (HKsm.out l' h1).2 r h2
              omega)
            clear hN5'
            go_wp2_with fail
            refine (all_any w5 _ p5 f _ _ HL5.out hrl HRL.out).mono ?_
            rintro e w6 ⟨v6, rfl, hv6, hb6⟩
            obtain ⟨da, dcap, hdv, -, -⟩ := hv6.shape
            rw [← HN.out] at hdv
            subst hdv
            have S6 := Lib.hid (S5.out.fr (Fr.of_below (S := fun _ => False) hb6) (fun _ _ h => h))
            have B6 := Lib.hid (B5.out.trans (hb6.mono B5.out.size))
            have HF6 := Lib.hid (HF5.out.below hb6)
            have HL6 := Lib.hid (HL5.out.below hb6)
            have HV6 := Lib.hid hv6
            clear hv6 hb6
            go_wp2_with fail
            refine (sameR_any w6 _ _ ks.flatten ks.flatten HV6.out.recs (S6.out.recs B6.out)).mono ?_
            rintro e w7 ⟨rfl, n7, rfl⟩
            have hdd : decide (ks.flatten = ks.flatten) = true := decide_eq_true rfl
            have G7 : Below w6.heap.size w6 (w6.drewN n7) := below_drewN (Below.refl _ _) _
            have S7 := Lib.hid (S6.out.fr (Fr.of_below (S := fun _ => False) G7) (fun _ _ h => h))
            have B7 := Lib.hid (B6.out.trans (G7.mono B6.out.size))
            have HF7 := Lib.hid (HF6.out.below G7)
            have HL7 := Lib.hid (HL6.out.below G7)
            generalize w6.drewN n7 = w7 at *
            clear G7
            go_wp2_with fail
            have hsmore : Small [more] := ⟨by simp, by simp; omega⟩
            obtain ⟨lv, hlv⟩ := HL7.out.v
            have hA : Below w7.heap.size w7 (w7.alloc (.cells #[.slice ma more.length mcap] 22)) := (Below.refl _ _).alloc (Nat.le_refl _) _
            have hz := heap_alloc_new w7 (.cells #[.slice ma more.length mcap] 22)
            have hlvA : LogV (w7.alloc (.cells #[.slice ma more.length mcap] 22)) wr.heap.size p5 f ⟨#[114]⟩ lv ks.flatten := ⟨hlv.1, (hA.block p5 (lt_of_obj hlv.2.1)).trans hlv.2.1, hlv.2.2.below hA⟩
            have HF7A := HF7.out.below hA
            have hle7 : wr.heap.size ≤ w7.heap.size := Nat.le_trans (Nat.le_of_lt (Nat.lt_of_le_of_lt hlv.1 (lt_of_obj hlv.2.1))) (Nat.le_refl _)
            have hLow : ∀ k, LSv f b p5 lv k → W.heap.size ≤ k := by
              rintro k ((rfl | rfl) | rfl | hk)
              · exact hf0
              · exact hb0
              · exact Nat.le_trans hWr hlv.1
              · exact Nat.le_trans hWr (hlv.2.2.tag hk).2
            have hnewS : ∀ k, LSv f b p5 lv k → k < w7.heap.size := by
              rintro k ((rfl | rfl) | rfl | hk)
              · exact lt_of_obj HF7.out.at_
              · obtain ⟨D, hD, -⟩ := HF7.out.map; exact World.ownsMap.lt hD
              · exact lt_of_obj hlv.2.1
              · exact (hlv.2.2.tag hk).1.lt
            have hBA : Below W.heap.size W (w7.alloc (.cells #[.slice ma more.length mcap] 22)) := B7.out.trans (hA.mono B7.out.size)
            have hvS : Hid (∀ w', Fr (LSv f b p5 lv) (w7.alloc (.cells #[.slice ma more.length mcap] 22)) w' → Recs w' (.slice (some ⟨w7.heap.size, 0, none⟩) 1 1) [more]) := Lib.hid (fun w' hfr => by
              have hz' := hfr.obj hz (fun hh => Nat.lt_irrefl _ (hnewS _ hh))
              have hB' := hBA.trans (hfr.below hBA.size hLow)
              exact ⟨[.slice ma more.length mcap], Reads.one hz', rfl, fun i r hi => by
                match i, hi with
                | 0, hi => cases hi; exact ⟨_, rfl, Reads.old HM.out hB' (Nat.le_refl _)⟩⟩)
            have S7A := S7.out.fr (Fr.of_below (S := fun _ => False) hA) (fun _ _ h => h)
            have hlvle : wr.heap.size ≤ (w7.alloc (.cells #[.slice ma more.length mcap] 22)).heap.size := Nat.le_trans hle7 hA.size
            refine (logapp_ok _ wr.heap.size p5 f b m5 st5 [114] (fileOf ks) _ (-1) (by decide) (by decide) (by omega) HF7A ⟨#[114]⟩ rfl rfl lv ks.flatten hlvA hlvle _ [more] hvS (by simp) hsmore.fits (by omega) hrl (by omega) hs50 (by omega)).mono ?_
            rintro e w8 ⟨rfl, hF8, -, hfr8⟩
            have B8 := Lib.hid (hBA.trans (hfr8.below hBA.size hLow))
            have S8 := Lib.hid (S7A.fr hfr8 (fun g hg hh => by
              have h1 := HTG5.out g hg
              rcases hh with hh | hh | hh
              · exact files_apart HF7A 22 (by decide) g hh (S7A.tag hg).1
              · subst hh; exact Tag.not hlvA.2.1 (by decide) (S7A.tag hg).1
              · have := (hlv.2.2.tag hh).2; omega))
            have e1 : fileOf (ks ++ [[more]]) = fileOf ks ++ frame (body [more]) := by rw [fileOf_append, fileOf_one _ (by simp)]
            rw [← e1] at hF8
            have HF8 := Lib.hid hF8
            have hsm8 : ∀ l ∈ ks ++ [[more]], Small l := by
              intro l hl
              rcases List.mem_append.1 hl with hl | hl
              · exact HKsm.out l hl
              · obtain rfl : l = [more] := by simpa using hl
                exact hsmore
            have hfl8 := fileOf_len _ hsm8
            have hfl8' : (fileOf (ks ++ [[more]])).length ≤ 2020000 := by
              have : (ks ++ [[more]]).length ≤ 101 := by simp; omega
              omega
            have HSC8 := Lib.hid (scan_whole (ks ++ [[more]]) (fun l hl => (hsm8 l hl).fits))
            have HFLT : Hid ((ks ++ [[more]]).flatten = ks.flatten ++ [more]) := Lib.hid (by simp)
            clear hA hz hlvA HF7A hle7 hLow hnewS hBA hvS S7A hlvle hF8 hfr8 e1 hsm8 hfl8 hlv hdd
            generalize hx8 : fileOf (ks ++ [[more]]) = x8 at *
            rw [HFLT.out] at HSC8
            clear HFLT hx8
            go_wp2_with fail
            refine (crash1 w8 f b _ _ _ _ [114] x8 _ HF8.out (by omega) (by omega) _ [] (Reads.nil _ _) (by simp)).mono ?_
            rintro e w9 ⟨f9, b9, rfl, hf9, hb9, hF9, hbel9⟩
            have ecut : cutN [] 0 x8 x8.length = 0 := by simp [cutN]
            simp only [ecut, Nat.add_zero, List.take_length] at hF9
            have HF9 := Lib.hid hF9
            have B9 := Lib.hid (B8.out.trans (hbel9.mono B8.out.size))
            have S9 := Lib.hid (S8.out.fr (Fr.of_below (S := fun _ => False) hbel9) (fun _ _ h => h))
            clear hF9 hbel9 ecut
            go_wp2_with fail
            refine (open_whole w9 f9 b9 _ 0 [114] x8 _ HF9.out ⟨#[114]⟩ rfl rfl (by omega) (by omega) (by omega) (by omega) _ HSC8.out).mono ?_
            rintro e w10 ⟨p10, rfl, hl10, -, hb10⟩
            have HL10 := Lib.hid hl10
            have B10 := Lib.hid (B9.out.trans (hb10.mono B9.out.size))
            have S10 := Lib.hid (S9.out.fr (Fr.of_below (S := fun _ => False) hb10) (fun _ _ h => h))
            have HLR : Hid ((ks.flatten ++ [more]).length = N + 1) := Lib.hid (by rw [List.length_append, ← HN.out]; rfl)
            have hrl2 : (ks.flatten ++ [more]).length ≤ 1073741824 := by rw [HLR.out]; omega
            have HRL2 : Hid (∀ (i : Nat) (r : List UInt8), (ks.flatten ++ [more])[i]? = some r → r.length ≤ 1099511627776) := Lib.hid (by
              intro i r hi
              rcases List.mem_append.1 (List.mem_of_getElem? hi) with hh | hh
              · obtain ⟨l', h1, h2⟩ := List.mem_flatten.1 hh
                have := (HKsm.out l' h1).2 r h2
                omega
              · obtain rfl : r = more := by simpa using hh
                omega)
            clear hl10 hb10
            go_wp2_with fail
            refine (all_any w10 _ p10 f9 _ _ HL10.out hrl2 HRL2.out).mono ?_
            rintro e wF ⟨vF, rfl, hvF, hbF⟩
            obtain ⟨fa, fcap, hfv, -, -⟩ := hvF.shape
            rw [HLR.out] at hfv
            subst hfv
            obtain ⟨vs, hvs, hrv⟩ := S10.out.fr (Fr.of_below (S := fun _ => False) hbF) (fun _ _ h => h)
            rw [← HN.out] at hvs
            have BF := Lib.hid (B10.out.trans (hbF.mono B10.out.size))
            have HVF := Lib.hid hvF
            have HVS := Lib.hid hvs.reads
            have HO1 := Lib.hid hrv.one
            have hru : RecVals W [.slice ma more.length mcap] [more] := ⟨rfl, fun i r hi => by
              match i, hi with
              | 0, hi => cases hi; exact ⟨_, rfl, HM.out⟩⟩
            have HRV := Lib.hid (RecVals.append hrv hru)
            clear hvF hbF hvs hrv hru hrl2 hrl
            go_wp2_with (first | (at_builtin; refine wpList_append_ownz_g (by rfl) _ _ 23 rfl wF.heap.size 22 ti (.slice none 0 0) 1 24 Try.underlying23 Hi.out Hz0.out Hz1.out Hz2.out rfl (.slice q1 N k1) N vs rfl (Z1.out.imp (fun h => h.fr (Fr.alloc (Fr.refl (fun _ => False) _) _) (fun _ _ => id)) id) _ 1 [.slice ma more.length mcap] rfl (Reads.one (heap_alloc_new wG _)) (by simp [Value.oneCell']) (N + 1) rfl (vs ++ [.slice ma more.length mcap]) rfl (by omega) (by omega) (Nat.le_trans G1.out.size (by simp)) ?_; intro q2 k2 wH t1 t2 t3 t4; have Z2 := Lib.hid t1; have G2 := Lib.hid ((G1.out.trans (((Below.refl wG.heap.size wG).alloc (Nat.le_refl _) _).mono G1.out.size)).trans (t4.below (Nat.le_trans G1.out.size (by simp)) (fun k hk => hk.1))); clear t1 t4) | (at_builtin; refine wpList_append_ownz_g (by rfl) _ _ 23 rfl wF.heap.size 22 ti (.slice none 0 0) 1 24 Try.underlying23 Hi.out Hz0.out Hz1.out Hz2.out rfl (.slice (some ⟨wF.heap.size, 0, none⟩) 0 0) 0 [] rfl (.inr ⟨⟨_, rfl⟩, rfl, rfl⟩) (.slice sa N scap) N vs rfl (HVS.out.below ((Below.refl _ _).alloc (Nat.le_refl _) _)) HO1.out N (Nat.zero_add _) vs rfl (by omega) (by omega) (by simp) ?_; intro q1 k1 wG t1 t2 t3 t4; have Z1 := Lib.hid t1; have G1 := Lib.hid (((Below.refl wF.heap.size wF).alloc (Nat.le_refl _) _).trans (t4.below (by simp) (fun k hk => hk.1))); clear t1 t4))
            have BH := Lib.hid (BF.out.trans (G2.out.mono BF.out.size))
            have hy : Recs wH (.slice q2 (N + 1) k2) (ks.flatten ++ [more]) := by
              refine ⟨vs ++ [.slice ma more.length mcap], ?_, HRV.out.old BH.out⟩
              rw [HLR.out]
              exact Z2.out.reads
            have HY := Lib.hid hy
            clear hy
            refine (sameR_any wH _ _ _ _ (HVF.out.recs.below G2.out) HY.out).mono ?_
            rintro e wI ⟨rfl, nI, rfl⟩
            have hdd : decide (ks.flatten ++ [more] = ks.flatten ++ [more]) = true := decide_eq_true rfl
            go_wp2_with fail
            go_ret
            exact ⟨rfl, below_drewN BH.out nI⟩
end Go.Proofs.Ytpnlcogbahjnoaa.F
