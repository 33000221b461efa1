/- chapter 13's awake. Conditions: none. -/
import Derived.Test.YtpnlcogbahjnoaaGreatLJ
import Derived.Lib.SlBytesConst
namespace Go.Proofs.YtpnlcogbahjnoaaGreat.F
open Go.RowKit Go.Proofs.YtpnlcogbahjnoaaGreat.M
set_option linter.unusedVariables false

theorem log_old {w w2 : World} {base p f f' : Nat} {s s' : ByteArray} {rs rs' : List (List UInt8)} {lv : Value} (h : LogAt w base p f s rs) (hb : Below w.heap.size w w2) (hl : LogV w2 base p f' s' lv rs') : ∀ g, lv.ownBlock = some g → g < w.heap.size := by
  obtain ⟨-, lv0, z0, o0⟩ := h
  have z2 := (hb.block p (lt_of_obj z0)).trans z0
  have z2' := hl.2.1
  rw [z2] at z2'
  simp at z2'
  obtain ⟨-, -, rfl⟩ := z2'
  exact fun g hg => (o0.tag hg).1.lt
/-- blocks that were made since are none that an Append turns -/
theorem lj_new {W w w2 w' : World} {f b p : Nat} {ls : List (List (List UInt8))} (h : LJ W w f b p ls) (hb : Below w.heap.size w w2) {lv : Value} (hl : LogV w2 W.heap.size p f ⟨#[114]⟩ lv ls.flatten) (hf : Fr (LSv f b p lv) w2 w') {g : Nat} {o : Obj} (hg : w.heap.size ≤ g) (hz : w2.heap[g]? = some o) : w'.heap[g]? = some o := by
  refine hf.obj hz ?_
  obtain ⟨m, st, hF, -⟩ := h.disk
  obtain ⟨D, hD, -⟩ := hF.map
  rintro ((hh | hh) | hh | hh)
  · have := lt_of_obj hF.at_; omega
  · have := World.ownsMap.lt hD; omega
  · obtain ⟨-, lv0, z0, -⟩ := h.log
    have := lt_of_obj z0; omega
  · have := log_old h.log hb hl g hh; omega

theorem recs_lit1 {w : World} {g g2 : Nat} {c : UInt8} {t1 t2 : TypeId} {f1 f2 : Nat × Nat} (h1 : w.heap[g]? = some (.cells #[.int .u8 c.toNat] t1 f1)) (h2 : w.heap[g2]? = some (.cells #[.slice (some ⟨g, 0, none⟩) 1 1] t2 f2)) : Recs w (.slice (some ⟨g2, 0, none⟩) 1 1) [[c]] := by
  refine ⟨[.slice (some ⟨g, 0, none⟩) 1 1], Reads.one h2, rfl, fun i r hi => ?_⟩
  match i, hi with
  | 0, hi => cases hi; exact ⟨_, rfl, Bytes.lit [c] h1 rfl (by simp)⟩
theorem recs_lit2 {w : World} {g g2 : Nat} {c : UInt8} {t1 t2 : TypeId} {f1 f2 : Nat × Nat} (h1 : w.heap[g]? = some (.cells #[.int .u8 c.toNat] t1 f1)) (h2 : w.heap[g2]? = some (.cells #[.slice (some ⟨g, 0, none⟩) 1 1, .slice none 0 0] t2 f2)) : Recs w (.slice (some ⟨g2, 0, none⟩) 2 2) [[c], []] := by
  refine ⟨[.slice (some ⟨g, 0, none⟩) 1 1, .slice none 0 0], ⟨rfl, .inr ⟨⟨g2, 0, none⟩, 2, rfl, Nat.le_refl _, by decide, fun j u hj => ⟨rfl, ?_⟩⟩⟩, rfl, fun i r hi => ?_⟩
  · rw [cell_at h2, Nat.zero_add]
    simpa using hj
  · match i, hi with
    | 0, hi => cases hi; exact ⟨_, rfl, Bytes.lit [c] h1 rfl (by simp)⟩
    | 1, hi => cases hi; exact ⟨_, rfl, Reads.nil _ _⟩

theorem lj_lit1 {W w : World} {f b p : Nat} {ls : List (List (List UInt8))} (h : LJ W w f b p ls) (hls : ls.length ≤ 1000) (c : UInt8) (x : Int) (hx : x = c.toNat) (N : Nat) (hN : N = w.heap.size) :
    Calls Tryz.prog 12 #[.pointer (some ⟨p, 0, none⟩), .slice (some ⟨N + 1, 0, none⟩) 1 1] ((w.alloc (.cells #[.int .u8 x] 5 (1, 2))).alloc (.cells #[.slice (some ⟨N, 0, none⟩) 1 1] 52)) fun e w' => e = .returned (.int .i64 0) ∧ LJ W w' f b p (ls ++ [[[c]]]) := by
  subst hN hx
  have hA : Below w.heap.size w ((w.alloc (.cells #[.int .u8 c.toNat] 5 (1, 2))).alloc (.cells #[.slice (some ⟨w.heap.size, 0, none⟩) 1 1] 52)) := ((Below.refl _ w).alloc (Nat.le_refl _) _).alloc (by simp) _
  have b0 : ((w.alloc (.cells #[.int .u8 c.toNat] 5 (1, 2))).alloc (.cells #[.slice (some ⟨w.heap.size, 0, none⟩) 1 1] 52)).heap[w.heap.size]? = some (.cells #[.int .u8 c.toNat] 5 (1, 2)) := (Below.heap_alloc _ _ _ (by simp)).trans (heap_alloc_new w _)
  have b1 : ((w.alloc (.cells #[.int .u8 c.toNat] 5 (1, 2))).alloc (.cells #[.slice (some ⟨w.heap.size, 0, none⟩) 1 1] 52)).heap[w.heap.size + 1]? = some (.cells #[.slice (some ⟨w.heap.size, 0, none⟩) 1 1] 52 (0, 0)) := by
    have := heap_alloc_new (w.alloc (.cells #[.int .u8 c.toNat] 5 (1, 2))) (.cells #[.slice (some ⟨w.heap.size, 0, none⟩) 1 1] 52)
    simpa using this
  refine lj_app' (h.below hA) hls _ _ ⟨by simp, by simp⟩ (Lib.hid (fun lv w' hl hf => ?_))
  exact recs_lit1 (lj_new h hA hl hf (Nat.le_refl _) b0) (lj_new h hA hl hf (by omega) b1)
theorem lj_lit2 {W w : World} {f b p : Nat} {ls : List (List (List UInt8))} (h : LJ W w f b p ls) (hls : ls.length ≤ 1000) (c : UInt8) (x : Int) (hx : x = c.toNat) (N : Nat) (hN : N = w.heap.size) :
    Calls Tryz.prog 12 #[.pointer (some ⟨p, 0, none⟩), .slice (some ⟨N + 1, 0, none⟩) 2 2] ((w.alloc (.cells #[.int .u8 x] 5 (1, 2))).alloc (.cells #[.slice (some ⟨N, 0, none⟩) 1 1, .slice none 0 0] 52)) fun e w' => e = .returned (.int .i64 0) ∧ LJ W w' f b p (ls ++ [[[c], []]]) := by
  subst hN hx
  have hA : Below w.heap.size w ((w.alloc (.cells #[.int .u8 c.toNat] 5 (1, 2))).alloc (.cells #[.slice (some ⟨w.heap.size, 0, none⟩) 1 1, .slice none 0 0] 52)) := ((Below.refl _ w).alloc (Nat.le_refl _) _).alloc (by simp) _
  have b0 : ((w.alloc (.cells #[.int .u8 c.toNat] 5 (1, 2))).alloc (.cells #[.slice (some ⟨w.heap.size, 0, none⟩) 1 1, .slice none 0 0] 52)).heap[w.heap.size]? = some (.cells #[.int .u8 c.toNat] 5 (1, 2)) := (Below.heap_alloc _ _ _ (by simp)).trans (heap_alloc_new w _)
  have b1 : ((w.alloc (.cells #[.int .u8 c.toNat] 5 (1, 2))).alloc (.cells #[.slice (some ⟨w.heap.size, 0, none⟩) 1 1, .slice none 0 0] 52)).heap[w.heap.size + 1]? = some (.cells #[.slice (some ⟨w.heap.size, 0, none⟩) 1 1, .slice none 0 0] 52 (0, 0)) := by
    have := heap_alloc_new (w.alloc (.cells #[.int .u8 c.toNat] 5 (1, 2))) (.cells #[.slice (some ⟨w.heap.size, 0, none⟩) 1 1, .slice none 0 0] 52)
    simpa using this
  refine lj_app' (h.below hA) hls _ _ ⟨by simp, by simp⟩ (Lib.hid (fun lv w' hl hf => ?_))
  exact recs_lit2 (lj_new h hA hl hf (Nat.le_refl _) b0) (lj_new h hA hl hf (by omega) b1)
/-- a log that was opened anew -/
theorem lj_open {W w : World} {f b p : Nat} {ls : List (List (List UInt8))} (h : LJ W w f b p ls) (hls : ls.length ≤ 1000) :
    Calls Tryz.prog 21 #[.pointer (some ⟨f, 0, none⟩), .string ⟨#[114]⟩] w fun e w' => ∃ p', e = .returned (.tuple #[.pointer (some ⟨p', 0, none⟩), .int .i64 0]) ∧ LogAt w' w.heap.size p' f ⟨#[114]⟩ ls.flatten ∧ LJ W w' f b p ls ∧ Below w.heap.size w w' := by
  obtain ⟨m, st, hF, hm, hs0, hs1⟩ := h.disk
  have hfl := fileOf_len ls h.fit
  refine (open_whole w f b m st [114] (fileOf ls) _ hF ⟨#[114]⟩ rfl rfl (by omega) (by omega) hs0 (by omega) ls.flatten (scan_whole ls (fun l hl => (h.fit l hl).fits))).mono ?_
  rintro e w' ⟨p', rfl, hl, -, hb⟩
  exact ⟨p', rfl, hl, h.below hb, hb⟩

set_option maxRecDepth 100000 in
set_option maxHeartbeats 1000000 in
theorem awake13_yes (w : World) :
    Calls Tryz.prog 4 #[] w fun e w' => e = .returned (.bool true) ∧ Below w.heap.size w w' := by
  have hcv := fun (w : World) (C : Array Value) (n c : Nat) => Lib.run_convert_bytes_const (P := Tryz.prog) w 52 5 C n c Tryz.underlying52 Tryz.underlying5
  go_enter Tryz.func4, Tryz.ntmps4
  go_wp2_with fail
  refine (new_any w).mono ?_
  rintro e w1 ⟨f, b, rfl, hf0, hb0, h1, hb1⟩
  have H1 := Lib.hid h1
  have B1 := Lib.hid hb1
  clear h1 hb1
  go_wp2_with fail
  refine (lj_create B1.out hf0 hb0 H1.out).mono ?_
  rintro e w2 ⟨p, rfl, h2⟩
  have H2 := Lib.hid h2
  clear h2
  go_wp2_with fail
  refine (lj_lit1 H2.out (by simp) 97 97 rfl _ rfl).mono ?_
  rintro e w3 ⟨rfl, h3⟩
  have H3 := Lib.hid h3
  clear h3
  go_wp2_with fail
  refine (lj_lit2 H3.out (by simp) 98 98 rfl _ rfl).mono ?_
  rintro e w4 ⟨rfl, h4⟩
  have H4 := Lib.hid h4
  clear h4
  go_wp2_with fail
  refine (lj_open H4.out (by simp)).mono ?_
  rintro e w5 ⟨p', rfl, h5, h5j, hb5⟩
  have H5 := Lib.hid h5
  have H5J := Lib.hid h5j
  clear h5 h5j hb5
  go_wp2_with fail
  refine (len_any w5 _ p' f _ _ H5.out).mono ?_
  rintro e w5' ⟨rfl, rfl⟩
  go_wp2_with fail
  refine (all_any w5' _ p' f _ _ H5.out (by simp) (by
    intro i r hi
    have hm := List.mem_of_getElem? hi
    simp at hm
    rcases hm with rfl | rfl | rfl <;> simp)).mono ?_
  rintro e w6 ⟨v6, rfl, h6, hb6⟩
  obtain ⟨g, o, u, hix, hcell, hub, -⟩ := recs_ix h6.recs 1 (by simp)
  obtain ⟨a6, k6, hv6, -, -⟩ := h6.shape
  simp at hv6
  subst hv6
  have hub : Bytes w6 u [98] := hub
  obtain ⟨ua, ucap, hue, hu1, hu2⟩ := hub.shape
  simp at hue
  subst hue
  obtain ⟨s, hs, hconv⟩ := conv_string hub
  have hix' : ∀ (k : IntKind) (w' : World), (Instr.indexAt 39 (.slice a6 3 k6) (.int k 1)).run Tryz.prog w' = .ok (.pointer (some ⟨g, o, none⟩)) w' := hix
  have B6 := Lib.hid (H5J.out.low.trans (hb6.mono H5J.out.low.size))
  have hs' : s = ⟨#[98]⟩ := by
    obtain ⟨⟨d⟩⟩ := s
    simp at hs
    subst hs
    rfl
  subst hs'
  clear hix h6 hb6 hub hs
  go_wp2_with fail
  go_ret
  exact ⟨rfl, B6⟩
end Go.Proofs.YtpnlcogbahjnoaaGreat.F
