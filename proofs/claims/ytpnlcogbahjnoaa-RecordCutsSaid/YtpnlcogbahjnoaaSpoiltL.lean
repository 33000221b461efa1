/- RecordSpoilt answers true, walked. Conditions stand at each theorem. -/
import Derived.Test.YtpnlcogbahjnoaaLists
import Derived.Test.YtpnlcogbahjnoaaSpoil
namespace Go.Proofs.Ytpnlcogbahjnoaa.F
open Go.RowKit Go.Proofs.Ytpnlcogbahjnoaa.M
set_option linter.unusedVariables false

theorem tmod_nat (x : Int) (N : Nat) (hN : 0 < N) : ∃ q : Nat, q < N ∧ Int.tmod (Int.tmod x N + N) N = (q : Nat) ∧ -(N : Int) < Int.tmod x N ∧ Int.tmod x N < N := by
  have h1 : Int.tmod x N < N := Int.tmod_lt_of_pos x (by omega)
  have h2 : -(N : Int) < Int.tmod x N := by
    have := Int.tmod_lt_of_pos (-x) (b := (N : Int)) (by omega)
    rw [Int.neg_tmod] at this
    omega
  have h3 : Int.tmod (Int.tmod x N + N) N = (Int.tmod x N + N) % N := Int.tmod_eq_emod_of_nonneg (by omega)
  refine ⟨((Int.tmod x N + N) % N).toNat, ?_, ?_, h2, h1⟩
  · have := Int.emod_lt_of_pos (Int.tmod x N + N) (b := (N : Int)) (by omega)
    have := Int.emod_nonneg (Int.tmod x N + N) (b := (N : Int)) (by omega)
    omega
  · have := Int.emod_nonneg (Int.tmod x N + N) (b := (N : Int)) (by omega)
    rw [h3]
    omega

set_option maxRecDepth 100000 in
set_option maxHeartbeats 2000000 in
theorem spoilt_yes (W : World) (v : Value) (ls : List (List (List UInt8))) (h : LLs W v ls) (bit : Int) (hb1 : -9223372036854775808 ≤ bit) (hb2 : bit ≤ 9223372036854775807) :
    Calls Try.prog 5 #[v, .int .i64 bit] W fun e w' => e = .returned (.bool true) ∧ Below W.heap.size W w' := by
  obtain ⟨a, cap, rfl, hc, hm⟩ := h.shape
  have HL := Lib.hid h
  clear h
  go_enter Try.func5, Try.ntmps5
  go_wp2_with fail
  refine (awake13_yes W).mono ?_
  rintro e w0 ⟨rfl, hb0⟩
  have B0 := Lib.hid hb0
  have HL0 : Hid (LLs w0 (.slice a ls.length cap) ls) := Lib.hid (by
    obtain ⟨vs, h1, h2, h3⟩ := HL.out
    exact ⟨vs, h1.old hb0 (Nat.le_refl _), h2, fun i l hi => by obtain ⟨u, g1, g2⟩ := h3 i l hi; exact ⟨u, g1, g2.old hb0 (Nat.le_refl _)⟩⟩)
  clear hb0
  go_wp2_with fail
  refine (roomR_any w0 _ ls HL0.out).mono ?_
  rintro e w0' ⟨⟨r, rfl, hroom⟩, rfl⟩
  cases r with
  | false =>
    go_wp2_with fail
    go_ret
    exact ⟨rfl, B0.out⟩
  | true =>
    obtain ⟨h100, hsm⟩ := hroom rfl
    have HSM := Lib.hid hsm
    clear hroom hsm HL0
    go_wp2_with fail
    refine (new_any w0').mono ?_
    rintro e w1 ⟨f, b, rfl, hf0, hb0, h1, hb1⟩
    have H1 := Lib.hid h1
    have B1 := Lib.hid (B0.out.trans (hb1.mono B0.out.size))
    have hf0 : W.heap.size ≤ f := Nat.le_trans B0.out.size hf0
    have hb0 : W.heap.size ≤ b := Nat.le_trans B0.out.size hb0
    clear h1 hb1
    go_wp2_with fail
    refine (lj_create B1.out hf0 hb0 H1.out).mono ?_
    rintro e w2 ⟨p, rfl, h2⟩
    have H2 := Lib.hid h2
    clear h2 H1 B1
    go_wp2_with fail
    go_loopg [8] ls.length (fun k s8 wr => ∃ i : Nat, i ≤ ls.length ∧ k + i = ls.length ∧ s8 = .int .i64 i ∧ Hid (LJ W wr f b p (ls.take i)))
    case atStart => exact ⟨0, by omega, by omega, rfl, by simpa using H2⟩
    case round =>
      obtain ⟨i, hi, hk, rfl, hj⟩ := hrel
      by_cases hlt : i < ls.length
      · obtain ⟨g, o, u, hix, hcell, hru⟩ := lls_ix HL.out i hlt
        have hc0 := ((bcell hj.out.low).1 g o (World.block_lt_of_cell? W _ hcell)).trans hcell
        obtain ⟨ua, ucap, hue, hu1, hu2⟩ := hru.shape
        have hsl : Small ls[i] := HSM.out _ (List.getElem_mem hlt)
        have htk : ls.take (i + 1) = ls.take i ++ [ls[i]] := List.take_succ_eq_append_getElem hlt
        have HTK := Lib.hid htk
        have HSL := Lib.hid hsl
        have HRU := Lib.hid hru
        clear hcell hru hsl htk
        generalize ls[i] = l at *
        subst hue
        go_wp2_with fail
        refine (lj_app hj.out (by simp; omega) _ l HSL.out HRU.out).mono ?_
        rintro e w3 ⟨rfl, h3⟩
        have H3 := Lib.hid h3
        clear h3
        go_wp2_with fail
        go_roundg (ls.length - (i + 1))
        case measure => omega
        case rel => exact ⟨i + 1, by omega, by omega, by simp, by rw [HTK.out]; exact H3⟩
      · have hin : i = ls.length := by omega
        rw [hin, List.take_length] at hj
        obtain ⟨m, st, hF, hm2, hs0, hs1⟩ := hj.out.disk
        have hfl := fileOf_len ls HSM.out
        have HF := Lib.hid hF
        have HFL : Hid (∀ n, n < 8 * (fileOf ls).length → scan (flipAt (fileOf ls) n) = none) := Lib.hid (fun n hn => scan_flip ls (fun l hl => (HSM.out l hl).fits) n hn)
        have BW := Lib.hid hj.out.low
        clear hF hj
        generalize hx : fileOf ls = x at *
        clear hx
        go_wp2_with fail
        refine (read1 wr f b m st (-1) false [114] x x.length HF.out (by omega) ⟨#[114]⟩ rfl (by decide)).mono ?_
        rintro e w3 ⟨v3, rfl, h3, hb3⟩
        obtain ⟨a3, k3, rfl, -, -⟩ := h3.reads.shape
        have HF3 := Lib.hid (HF.out.below hb3)
        have B3 := Lib.hid (BW.out.trans (hb3.mono BW.out.size))
        clear h3 hb3 HF
        by_cases hx0 : x.length = 0
        · have hx0' : ((x.length : Int) == 0) = true := by simpa using hx0
          go_wp2_with fail
          go_ret
          exact ⟨rfl, B3.out⟩
        · have hx0' : ¬ ((x.length : Int) = 0) := by omega
          obtain ⟨q, hq, hqe, hr1, hr2⟩ := tmod_nat bit (x.length * 8) (by omega)
          have e8 : ((x.length * 8 : Nat) : Int) = (x.length : Int) * 8 := by omega
          rw [e8] at hqe hr1 hr2
          have hw : IntKind.i64.wrap (Int.tmod bit ((x.length : Int) * 8) + (x.length : Int) * 8) = Int.tmod bit ((x.length : Int) * 8) + (x.length : Int) * 8 := IntWalk.i64_in _ (by omega)
          have hw8 : IntKind.i64.wrap ((x.length : Int) * 8) = (x.length : Int) * 8 := IntWalk.i64_in _ (by omega)
          go_wp2_with fail
          refine (flip_any w3 f b m st (-1) false [114] x x.length HF3.out ⟨#[114]⟩ rfl (by decide) q (by omega) (by omega) (by omega)).mono ?_
          rintro e w4 ⟨rfl, h4, f4⟩
          have HF4 := Lib.hid h4
          have B4 := Lib.hid (B3.out.trans (f4.below B3.out.size (by rintro k rfl; exact hb0)))
          have hfl4 : (flipAt x q).length = x.length := by rw [flipAt, List.length_set]
          have HSC := Lib.hid (HFL.out q (by omega))
          clear h4 f4
          go_wp2_with fail
          refine (open_spoilt w4 f b _ _ [114] _ _ HF4.out ⟨#[114]⟩ rfl rfl (by omega) (by omega) (by omega) (by omega) HSC.out).mono ?_
          rintro e w5 ⟨rfl, hb5⟩
          have B5 := Lib.hid (B4.out.trans (hb5.mono B4.out.size))
          clear hb5
          go_wp2_with fail
          go_ret
          exact ⟨rfl, B5.out⟩
end Go.Proofs.Ytpnlcogbahjnoaa.F
