/- The reference's record Frame. Conditions stand at each theorem. -/
import Derived.Test.YtpnlcogbahjnoaaGreatQWriter
import Derived.Test.YtpnlcogbahjnoaaGreatRecs
namespace Go.Proofs.YtpnlcogbahjnoaaGreat.F
open Go.RowKit Go.Proofs.YtpnlcogbahjnoaaGreat.M
set_option linter.unusedVariables false

theorem qwr_new (w : World) : QWrAt (w.alloc (.cells #[.slice none 0 0, .int .i64 0] 96)) w.heap.size w.heap.size [] ∧ Below w.heap.size w (w.alloc (.cells #[.slice none 0 0, .int .i64 0] 96)) :=
  ⟨⟨Nat.le_refl _, by simp, .slice none 0 0, heap_alloc_new w _, Owns.nil _ _ _ _⟩, (Below.refl _ w).alloc (Nat.le_refl _) _⟩

set_option maxRecDepth 100000 in
set_option maxHeartbeats 1000000 in
theorem qrecframe_any (w : World) (v : Value) (rs : List (List UInt8)) (h : Recs w v rs) (hb : (body rs).length ≤ 1048576) :
    Calls Tryz.prog 34 #[v] w fun e w' => ∃ v', e = .returned (.tuple #[v', .int .i64 0]) ∧ Owns w' w.heap.size 5 1 v' ((body rs).length + 12) ((frame (body rs)).map M.u8) ∧ Below w.heap.size w w' := by
  obtain ⟨a, cap, rfl, hc, hm⟩ := h.shape
  have HR := Lib.hid h
  have hrl := recs_le rs
  have hbl : (body rs).length = (encNum rs.length).length + (encRecs rs).length := by simp [body]
  have hel : (encNum rs.length).length ≤ 6 := encNum_len 5 rs.length (by omega)
  clear h
  go_enter Tryz.func34, Tryz.ntmps34
  go_wp2_with fail
  have h1 := qwr_new w
  have H1 := Lib.hid h1.1
  have B1 := Lib.hid h1.2
  clear h1
  refine (qwnum_any _ w.heap.size w.heap.size [] H1.out rs.length (by omega) (by simp)).mono ?_
  rintro e w2 ⟨rfl, h2, hb2⟩
  rw [List.nil_append] at h2
  have H2 := Lib.hid h2
  have B2 := Lib.hid (B1.out.trans hb2)
  clear h2 hb2 H1
  go_wp2_with fail
  go_loopg [5] rs.length (fun k s wr => ∃ j : Nat, j ≤ rs.length ∧ k + j = rs.length ∧ s = .int .i64 j ∧ Hid (QWrAt wr w.heap.size w.heap.size (encNum rs.length ++ encRecs (rs.take j))) ∧ Hid (Below w.heap.size w wr))
  case atStart => exact ⟨0, by omega, by omega, rfl, by simpa [encRecs] using H2, B2⟩
  case round =>
    obtain ⟨j, hj, hk, rfl, hwr, hbw⟩ := hrel
    by_cases hlt : j < rs.length
    · obtain ⟨g, o, u, hix, hcell, hub, -⟩ := recs_ix HR.out j hlt
      have hc0 := ((bcell hbw.out).1 g o (World.block_lt_of_cell? w _ hcell)).trans hcell
      obtain ⟨ua, ucap, hue, hu1, hu2⟩ := hub.shape
      have hrj := rec_le rs j hlt
      have htk := encRecs_take rs j hlt
      have htl := encRecs_take_le rs j
      subst hue
      have HU := Lib.hid hub
      have HTK := Lib.hid htk
      clear hub hcell htk
      generalize hrj' : rs[j] = r at *
      go_wp2_with fail
      refine (qwbytes_any w wr w.heap.size w.heap.size _ hwr.out _ r HU.out (Nat.le_refl _) hbw.out (by omega) (by simp; omega)).mono ?_
      rintro e w3 ⟨rfl, h3, hb3⟩
      have H3 := Lib.hid h3
      have B3 := Lib.hid (hbw.out.trans hb3)
      clear h3 hb3
      go_wp2_with fail
      go_roundg (rs.length - (j + 1))
      case measure => omega
      case rel =>
        refine ⟨j + 1, by omega, by omega, by simp, ?_, B3⟩
        rw [HTK.out, ← List.append_assoc]
        exact H3
    · have hjn : j = rs.length := by omega
      rw [hjn, List.take_length] at hwr
      go_wp2_with fail
      refine (qwdone_any wr w.heap.size w.heap.size (body rs) hwr.out (by omega)).mono ?_
      rintro e w3 ⟨v3, rfl, h3, hb3⟩
      have H3 := Lib.hid h3
      have B3 := Lib.hid (hbw.out.trans (hb3.mono hbw.out.size))
      clear h3 hb3
      go_wp2_with fail
      refine (qframe_any w3 v3 (body rs) (Bytes.of_owns H3.out) hb).mono ?_
      rintro e w4 ⟨v4, rfl, h4, hb4⟩
      have H4 := Lib.hid h4
      have B4 := Lib.hid (B3.out.trans (hb4.mono B3.out.size))
      clear h4 hb4
      go_wp2_with fail
      go_ret2
      exact ⟨_, rfl, H4.out.mono B3.out.size, B4.out⟩
end Go.Proofs.YtpnlcogbahjnoaaGreat.F
