/- Slices of slices of bytes; record.Frame. Conditions stand at each theorem. -/
import Derived.Test.YtpnlcogbahjnoaaGreatText
namespace Go.Proofs.YtpnlcogbahjnoaaGreat.F
open Go.RowKit Go.Proofs.YtpnlcogbahjnoaaGreat.M
set_option linter.unusedVariables false

/-- vs are slices of bytes that read as rs -/
def RecVals (w : World) (vs : List Value) (rs : List (List UInt8)) : Prop := vs.length = rs.length ∧ ∀ (i : Nat) (r : List UInt8), rs[i]? = some r → ∃ u, vs[i]? = some u ∧ Bytes w u r
/-- v is a slice of slices of bytes -/
def Recs (w : World) (v : Value) (rs : List (List UInt8)) : Prop := ∃ vs, Reads w 1 v rs.length vs ∧ RecVals w vs rs
theorem Recs.shape {w : World} {v : Value} {rs : List (List UInt8)} (h : Recs w v rs) : ∃ a cap, v = .slice a rs.length cap ∧ rs.length ≤ cap ∧ cap ≤ 9223372036854775807 := by
  obtain ⟨vs, h, _⟩ := h
  exact h.shape
theorem RecVals.old {w w' : World} {vs : List Value} {rs : List (List UInt8)} (h : RecVals w vs rs) (hb : Below w.heap.size w w') : RecVals w' vs rs :=
  ⟨h.1, fun i r hi => by
    obtain ⟨u, h1, h2⟩ := h.2 i r hi
    exact ⟨u, h1, Reads.below h2 hb⟩⟩
theorem Recs.below {w w' : World} {v : Value} {rs : List (List UInt8)} (h : Recs w v rs) (hb : Below w.heap.size w w') : Recs w' v rs := by
  obtain ⟨vs, h1, h2⟩ := h
  exact ⟨vs, h1.below hb, h2.old hb⟩
theorem Recs.old {B : Nat} {w w' : World} {v : Value} {rs : List (List UInt8)} (h : Recs w v rs) (hb : Below B w w') (hB : w.heap.size ≤ B) : Recs w' v rs := h.below (hb.mono hB)
theorem Recs.nil (w : World) : Recs w (.slice none 0 0) [] := ⟨[], Reads.nil w 1, rfl, fun i r h => by simp at h⟩

theorem info23 : (Tryz.prog.info? 52).map (fun i => (i.zero, i.size, i.bytes)) = some (some (.slice none 0 0), 1, 24) := by kernel_rfl
theorem recs_ix {w : World} {v : Value} {rs : List (List UInt8)} (h : Recs w v rs) (j : Nat) (hj : j < rs.length) :
    ∃ g o u, (∀ (k : IntKind) (w' : World), (Instr.indexAt 39 v (.int k j)).run Tryz.prog w' = .ok (.pointer (some ⟨g, o, none⟩)) w') ∧ w.cell? ⟨g, o, none⟩ = some u ∧ Bytes w u rs[j] ∧ v.ownBlock = some g := by
  obtain ⟨vs, h1, h2, h3⟩ := h
  obtain ⟨i, hi, hz0, hz1, hz2⟩ := info_parts info23
  obtain ⟨u, hu, hb⟩ := h3 j rs[j] (by simp [hj])
  obtain ⟨g, o, q1, q2, q3⟩ := index_reads 39 52 Tryz.underlying39 i hi w hz1 v _ _ h1 j u hu
  exact ⟨g, o, u, q1, q2, hb, q3⟩

def encRecs (rs : List (List UInt8)) : List UInt8 := rs.flatMap fun r => encNum r.length ++ r
def body (rs : List (List UInt8)) : List UInt8 := encNum rs.length ++ encRecs rs
theorem encRecs_take (rs : List (List UInt8)) (j : Nat) (hj : j < rs.length) : encRecs (rs.take (j + 1)) = encRecs (rs.take j) ++ (encNum rs[j].length ++ rs[j]) := by
  rw [List.take_succ_eq_append_getElem hj, encRecs, List.flatMap_append]
  simp [encRecs]
theorem encRecs_take_le (rs : List (List UInt8)) (j : Nat) : (encRecs (rs.take j)).length ≤ (encRecs rs).length := by
  have : encRecs rs = encRecs (rs.take j) ++ encRecs (rs.drop j) := by
    rw [encRecs, encRecs, encRecs, ← List.flatMap_append, List.take_append_drop]
  rw [this]
  simp
theorem rec_le (rs : List (List UInt8)) (j : Nat) (hj : j < rs.length) : rs[j].length ≤ (encRecs rs).length := by
  have h1 := encRecs_take_le rs (j + 1)
  rw [encRecs_take rs j hj] at h1
  simp at h1
  omega
theorem encNum_pos (n : Nat) : 1 ≤ (encNum n).length := by
  by_cases h : n < 128
  · rw [encNum_small h]; simp
  · rw [encNum_big h]; simp
theorem recs_le (rs : List (List UInt8)) : rs.length ≤ (encRecs rs).length := by
  induction rs with
  | nil => simp
  | cons r rs ih =>
    have := encNum_pos r.length
    simp [encRecs] at ih ⊢
    omega

set_option maxRecDepth 100000 in
set_option maxHeartbeats 1000000 in
theorem recframe_any (w : World) (v : Value) (rs : List (List UInt8)) (h : Recs w v rs) (hb : (body rs).length ≤ 1048576) :
    Calls Tryz.prog 32 #[v] w fun e w' => ∃ v', e = .returned (.tuple #[v', .int .i64 0]) ∧ Owns w' w.heap.size 5 1 v' ((body rs).length + 12) ((frame (body rs)).map M.u8) ∧ Below w.heap.size w w' := by
  obtain ⟨a, cap, rfl, hc, hm⟩ := h.shape
  have HR := Lib.hid h
  have hrl := recs_le rs
  have hbl : (body rs).length = (encNum rs.length).length + (encRecs rs).length := by simp [body]
  have hel : (encNum rs.length).length ≤ 6 := encNum_len 5 rs.length (by omega)
  clear h
  go_enter Tryz.func32, Tryz.ntmps32
  go_wp2_with fail
  refine (newWriter_any w).mono ?_
  rintro e w1 ⟨p, rfl, h1, hb1⟩
  have H1 := Lib.hid h1
  have B1 := Lib.hid hb1
  clear h1 hb1
  go_wp2_with fail
  refine (wnum_any w1 w.heap.size p [] H1.out rs.length (by omega) (by simp)).mono ?_
  rintro e w2 ⟨rfl, h2, hb2⟩
  rw [List.nil_append] at h2
  have H2 := Lib.hid h2
  have B2 := Lib.hid (B1.out.trans hb2)
  clear h2 hb2 H1
  go_wp2_with fail
  go_loopg [16] rs.length (fun k s wr => ∃ j : Nat, j ≤ rs.length ∧ k + j = rs.length ∧ s = .int .i64 j ∧ Hid (WrAt wr w.heap.size p (encNum rs.length ++ encRecs (rs.take j))) ∧ Hid (Below w.heap.size w wr))
  case atStart => exact ⟨0, by omega, by omega, rfl, by simpa [encRecs] using H2, B2⟩
  case round =>
    obtain ⟨j, hj, hk, rfl, hwr, hbw⟩ := hrel
    by_cases hlt : j < rs.length
    · obtain ⟨g, o, u, hix, hcell, hub, -⟩ := recs_ix HR.out j hlt
      have hc0 := ((bcell hbw.out).1 g o (World.block_lt_of_cell? w _ hcell)).trans hcell
      obtain ⟨ua, ucap, hue, hu1, hu2⟩ := hub.shape
      have hrj := rec_le rs j hlt
      have htk := encRecs_take rs j hlt
      have htl := encRecs_take_le rs j
      subst hue
      have HU := Lib.hid hub
      have HTK := Lib.hid htk
      clear hub hcell htk
      generalize hrj' : rs[j] = r at *
      go_wp2_with fail
      refine (wbytes_any wr w.heap.size p _ hwr.out _ r (HU.out.old hbw.out (Nat.le_refl _)) (by omega) (by simp; omega)).mono ?_
      rintro e w3 ⟨rfl, h3, hb3⟩
      have H3 := Lib.hid h3
      have B3 := Lib.hid (hbw.out.trans hb3)
      clear h3 hb3
      go_wp2_with fail
      go_roundg (rs.length - (j + 1))
      case measure => omega
      case rel =>
        refine ⟨j + 1, by omega, by omega, by simp, ?_, B3⟩
        rw [HTK.out, ← List.append_assoc]
        exact H3
    · have hjn : j = rs.length := by omega
      rw [hjn, List.take_length] at hwr
      go_wp2_with fail
      refine (wdone_any wr w.heap.size p (body rs) hwr.out (by omega)).mono ?_
      rintro e w3 ⟨v3, rfl, h3, hb3⟩
      have H3 := Lib.hid h3
      have B3 := Lib.hid (hbw.out.trans (hb3.mono hbw.out.size))
      clear h3 hb3
      go_wp2_with fail
      refine (frame_any w3 v3 (body rs) (Bytes.of_owns H3.out) hb).mono ?_
      rintro e w4 ⟨v4, rfl, h4, hb4⟩
      have H4 := Lib.hid h4
      have B4 := Lib.hid (B3.out.trans (hb4.mono B3.out.size))
      clear h4 hb4
      go_wp2_with fail
      go_ret2
      exact ⟨_, rfl, H4.out.mono B3.out.size, B4.out⟩
end Go.Proofs.YtpnlcogbahjnoaaGreat.F
