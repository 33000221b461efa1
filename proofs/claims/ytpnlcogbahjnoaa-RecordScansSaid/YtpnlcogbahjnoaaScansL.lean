/- RecordScans answers true, walked. Conditions stand at each theorem. -/
import Derived.Test.YtpnlcogbahjnoaaLists
import Derived.Test.YtpnlcogbahjnoaaQScan
namespace Go.Proofs.Ytpnlcogbahjnoaa.F
open Go.RowKit Go.Proofs.Ytpnlcogbahjnoaa.M
set_option linter.unusedVariables false

def scN : Option (List (List UInt8) × Nat) → Int
  | some (_, n) => n
  | none => 0
def scE : Option (List (List UInt8) × Nat) → Int
  | some _ => 0
  | none => 10
def scR : Option (List (List UInt8) × Nat) → List (List UInt8)
  | some (rs, _) => rs
  | none => []
theorem scan_parts {w' : World} {base : Nat} {e : Ending} {X : Option (List (List UInt8) × Nat)} (h : ScanOut w' base e X) : ∃ x, e = .returned (.tuple #[x, .int .i64 (scN X), .int .i64 (scE X)]) ∧ Recs w' x (scR X) := by
  match X, h with
  | none, h => exact ⟨_, h, Recs.nil _⟩
  | some (rs, n), ⟨v, h1, h2⟩ => exact ⟨v, h1, h2.recs⟩
theorem lls_one {w : World} {a : Option Addr} {n k : Nat} {rs : List (List UInt8)} {t : TypeId} {g : Nat} {fz : Nat × Nat} (hz : w.heap[g]? = some (.cells #[.slice a n k] t fz)) (h : Recs w (.slice a n k) rs) : LLs w (.slice (some ⟨g, 0, none⟩) 1 1) [rs] :=
  ⟨[.slice a n k], Reads.one hz, rfl, fun i l hi => by
    match i, hi with
    | 0, hi => cases hi; exact ⟨_, rfl, h⟩⟩

set_option maxRecDepth 100000 in
set_option maxHeartbeats 2000000 in
theorem scans_yes (W : World) (v : Value) (bs : List UInt8) (hb : Bytes W v bs) (v1 : Value) (rs : List (List UInt8)) (hr : Recs W v1 rs) :
    Calls Try.prog 3 #[v, v1] W fun e w' => e = .returned (.bool true) ∧ Below W.heap.size W w' := by
  obtain ⟨a, cap, rfl, hc, hm⟩ := hb.shape
  obtain ⟨a1, cap1, rfl, hc1, hm1⟩ := hr.shape
  have HV := Lib.hid hb
  have HR := Lib.hid hr
  clear hb hr
  go_enter Try.func3, Try.ntmps3
  go_wp2_with fail
  refine (awake13_yes W).mono ?_
  rintro e w0 ⟨rfl, hb0⟩
  have B0 := Lib.hid hb0
  have HV0 := Lib.hid (hv_old HV.out hb0 (Nat.le_refl _))
  have HR0 := Lib.hid (HR.out.old hb0 (Nat.le_refl _))
  clear hb0
  by_cases hbig : 20000 < bs.length
  · go_wp2_with fail
    go_ret
    exact ⟨rfl, B0.out⟩
  · go_wp2_with fail
    have A : Below w0.heap.size w0 (w0.alloc (.cells #[.slice a1 rs.length cap1] 23)) := (Below.refl _ _).alloc (Nat.le_refl _) _
    have hll : LLs (w0.alloc (.cells #[.slice a1 rs.length cap1] 23)) (.slice (some ⟨w0.heap.size, 0, none⟩) 1 1) [rs] := lls_one (heap_alloc_new w0 _) (HR0.out.below A)
    refine (roomR_any _ _ [rs] hll).mono ?_
    rintro e w1 ⟨⟨r, rfl, hroom⟩, rfl⟩
    have B1 := Lib.hid (B0.out.trans (A.mono B0.out.size))
    have HV1 := Lib.hid (hv_old HV0.out A (Nat.le_refl _))
    have HR1 := Lib.hid (HR0.out.below A)
    clear hll A
    generalize w0.alloc (.cells #[.slice a1 rs.length cap1] 23) = w1 at *
    cases r with
    | false =>
      go_wp2_with fail
      go_ret
      exact ⟨rfl, B1.out⟩
    | true =>
      have hsm : Small rs := (hroom rfl).2 rs (by simp)
      have hbl := hsm.body_len
      clear hroom hsm
      go_wp2_with fail
      refine (scan_any w1 _ bs HV1.out (by omega)).mono ?_
      rintro e w2 ⟨hs2, hb2⟩
      obtain ⟨x, rfl, hx⟩ := scan_parts hs2
      have B2 := Lib.hid (B1.out.trans (hb2.mono B1.out.size))
      have HV2 := Lib.hid (hv_old HV1.out hb2 (Nat.le_refl _))
      have HR2 := Lib.hid (HR1.out.below hb2)
      have HX := Lib.hid hx
      clear hs2 hb2 hx
      go_wp2_with fail
      refine (qscan_any w2 _ bs HV2.out (by omega)).mono ?_
      rintro e w3 ⟨hs3, hb3⟩
      obtain ⟨y, rfl, hy⟩ := scan_parts hs3
      have B3 := Lib.hid (B2.out.trans (hb3.mono B2.out.size))
      have HR3 := Lib.hid (HR2.out.below hb3)
      have HX3 := Lib.hid (HX.out.below hb3)
      have HY := Lib.hid hy
      clear hs3 hb3 hy
      go_wp2_with fail
      refine (recframe_any w3 _ rs HR3.out (by omega)).mono ?_
      rintro e w4 ⟨c, rfl, ho4, hb4⟩
      have B4 := Lib.hid (B3.out.trans (hb4.mono B3.out.size))
      have HR4 := Lib.hid (HR3.out.below hb4)
      have HX4 := Lib.hid (HX3.out.below hb4)
      have HY4 := Lib.hid (HY.out.below hb4)
      have HC := Lib.hid (Bytes.of_owns ho4)
      clear ho4 hb4
      go_wp2_with fail
      refine (qrecframe_any w4 _ rs HR4.out (by omega)).mono ?_
      rintro e w5 ⟨d, rfl, ho5, hb5⟩
      have B5 := Lib.hid (B4.out.trans (hb5.mono B4.out.size))
      have HX5 := Lib.hid (HX4.out.below hb5)
      have HY5 := Lib.hid (HY4.out.below hb5)
      have HC5 := Lib.hid (hv_old HC.out hb5 (Nat.le_refl _))
      have HD := Lib.hid (Bytes.of_owns ho5)
      clear ho5 hb5
      have hsame := sameR_any w5 x y _ _ HX5.out HY5.out
      rw [decide_eq_true rfl] at hsame
      have HS := Lib.hid hsame
      clear hsame
      generalize scN (scan bs) = N at *
      generalize scE (scan bs) = E at *
      go_wp2_with fail
      refine HS.out.mono ?_
      rintro e w6 ⟨rfl, m, rfl⟩
      have hsame := same_any (w5.drewN m) c d _ _ (hv_old HC5.out (below_drewN (Below.refl _ _) _) (Nat.le_refl _)) (hv_old HD.out (below_drewN (Below.refl _ _) _) (Nat.le_refl _))
      rw [decide_eq_true rfl] at hsame
      go_wp2_with fail
      refine hsame.mono ?_
      rintro e w7 ⟨rfl, m', rfl⟩
      go_wp2_with fail
      go_ret
      exact ⟨rfl, below_drewN B5.out _⟩
end Go.Proofs.Ytpnlcogbahjnoaa.F
