/- (*Files).does, walked once for each of its callers' closures. Conditions stand at each theorem. -/
import Derived.Test.YtpnlcogbahjnoaaGreatFile
namespace Go.Proofs.YtpnlcogbahjnoaaGreat.F
open Go.RowKit Go.Proofs.YtpnlcogbahjnoaaGreat.M
set_option linter.unusedVariables false

set_option maxHeartbeats 400000 in
theorem does_dead (w : World) (f b m : Nat) (C : Disk) (steps fuse : Int) (h : Files w f b m C steps fuse true) (s x y : Value) :
    Calls Tryz.prog 44 #[.pointer (some ⟨f, 0, none⟩), s, x, y] w fun e w' => e = .returned (.int .i64 7) ∧ w = w' := by
  go_enter Tryz.func44, Tryz.ntmps44
  go_wp2_with fail
  refine (ready_any w f b m C steps fuse true h).mono ?_
  rintro e w ⟨rfl, rfl⟩
  go_wp2_with fail
  go_ret
  exact ⟨rfl, rfl⟩
set_option maxRecDepth 100000 in
set_option maxHeartbeats 1000000 in
theorem does_none (w : World) (f b m : Nat) (C : Disk) (steps fuse : Int) (h : Files w f b m C steps fuse false) (s : ByteArray) (hs : s.size ≤ maxLen) (hc : C s.data.toList = none) (x y : Value) :
    Calls Tryz.prog 44 #[.pointer (some ⟨f, 0, none⟩), .string s, x, y] w fun e w' => e = .returned (.int .i64 8) ∧ Below w.heap.size w w' := by
  obtain ⟨D, hD, hH⟩ := h.map
  obtain ⟨sa, scap, _, lk2, _⟩ := look hD hH s hs
  rw [hc] at lk2
  have c1 := cell_at h.at_ 1
  simp at c1
  have HF := Lib.hid h
  clear hD hH h hc
  go_enter Tryz.func44, Tryz.ntmps44
  go_wp2_with fail
  refine (ready_any w f b m C steps fuse false HF.out).mono ?_
  rintro e w ⟨rfl, rfl⟩
  go_wp2_with fail
  go_ret
  exact ⟨rfl, (Below.refl _ w).alloc (Nat.le_refl _) _⟩

set_option maxRecDepth 100000 in
set_option maxHeartbeats 2000000 in
theorem does_sync_ok (w : World) (f b m : Nat) (C : Disk) (steps fuse : Int) (h : Files w f b m C steps fuse false) (s : ByteArray) (hs : s.size ≤ maxLen) (c0 c1 : Nat) (bs : List UInt8) (l : Nat) (hc : C s.data.toList = some (bs, l)) (h1 : 0 ≤ steps) (h2 : steps ≤ 1099511627776) (h4 : fuse ≤ 9223372036854775807) (m' : Nat) (C' : Disk)
    (hok : Hid (∀ sa scap w1, Below w.heap.size w w1 → OB w1 (.slice sa bs.length scap) bs → bs.length ≤ scap → scap ≤ 9223372036854775807 → Calls Tryz.prog 45 #[.agg #[.slice sa bs.length scap, .int .i64 l]] w1 fun e w' => e = .returned (.bool true) ∧ Below w1.heap.size w1 w'))
    (hwhat : Hid (fuse ≠ 0 → ∀ sa scap w1, Fr (fun k => k = f) w w1 → Files w1 f b m C (steps + 1) (stepF fuse) false → OB w1 (.slice sa bs.length scap) bs → bs.length ≤ scap → scap ≤ 9223372036854775807 →
      Calls Tryz.prog 49 #[.agg #[.slice sa bs.length scap, .int .i64 l], .pointer (some ⟨c0, 0, none⟩), .pointer (some ⟨c1, 0, none⟩)] w1 fun e w2 => e = .returned (.tuple #[]) ∧ Files w2 f b m' C' (steps + 1) (stepF fuse) false ∧ Fr (fun k => k = f ∨ k = b) w1 w2)) :
    Calls Tryz.prog 44 #[.pointer (some ⟨f, 0, none⟩), .string s, .func (.func 45) #[] #[], .func (.func 49) #[] #[.pointer (some ⟨c0, 0, none⟩), .pointer (some ⟨c1, 0, none⟩)]] w fun e w' => e = .returned (.int .i64 (stepE fuse)) ∧ (fuse = 0 → Files w' f b m C (steps + 1) (stepF fuse) true) ∧ (fuse ≠ 0 → Files w' f b m' C' (steps + 1) (stepF fuse) false) ∧ Fr (fun k => k = f ∨ k = b) w w' := by
  obtain ⟨D, hD, hH⟩ := h.map
  obtain ⟨sa, scap, _, lk2, hob, hcl, hsc, hsm⟩ := look hD hH s hs
  have e1 : cb C s.data.toList = bs := by simp [cb, hc]
  have e2 : cl C s.data.toList = l := by simp [cl, hc]
  rw [hc] at lk2
  rw [e1] at hob hsc lk2
  rw [e2] at lk2
  clear e1 e2 hcl
  have c1 := cell_at h.at_ 1
  simp at c1
  have HF := Lib.hid h
  have HO := Lib.hid hob
  clear hD hH h hob hc
  go_enter Tryz.func44, Tryz.ntmps44
  go_wp2_with fail
  refine (ready_any w f b m C steps fuse false HF.out).mono ?_
  rintro e w ⟨rfl, rfl⟩
  go_wp2_with fail
  have hA : Below w.heap.size w (w.alloc (.cells #[.slice sa bs.length scap, .int .i64 l] 74)) := (Below.refl _ _).alloc (Nat.le_refl _) _
  have z1 := heap_alloc_new w (.cells #[.slice sa bs.length scap, .int .i64 l] 74)
  have hsz : (w.alloc (.cells #[.slice sa bs.length scap, .int .i64 l] 74)).heap.size = w.heap.size + 1 := by simp
  generalize w.alloc (.cells #[.slice sa bs.length scap, .int .i64 l] 74) = w1 at *
  refine (hok.out sa scap w1 hA (HO.out.below hA) hsc hsm).mono ?_
  rintro e w2 ⟨rfl, hb2⟩
  have z2 := (hb2.block w.heap.size (by omega)).trans z1
  have hA2 : Below w.heap.size w w2 := hA.trans (hb2.mono (by omega))
  have hs2 := hb2.size
  have Z2 := Lib.hid z2
  have HA2 := Lib.hid hA2
  clear z1 hA hb2 c1 lk2 z2 hA2
  go_wp2_with fail
  refine (step_any w2 f b steps fuse (HF.out.below HA2.out).at_ h1 h2 h4).mono ?_
  rintro e w3 ⟨rfl, A3, F3⟩
  have z3 := F3.obj Z2.out (Nat.ne_of_gt (lt_of_obj HF.out.at_))
  have hu : ¬ Tag w2 f 5 := Tag.not (HF.out.below HA2.out).at_ (by decide)
  have hf2 := HF.out.below HA2.out
  obtain ⟨D2, hD2, hH2⟩ := hf2.map
  have hD3 := hD2.fr F3 (fun e => HF.out.f_ne e.symm)
  have hH3 := hH2.fr F3 (by rintro g rfl; exact hu)
  have hF3 : Files w3 f b m C (steps + 1) (stepF fuse) (decide (fuse = 0)) := ⟨A3, D2, hD3, hH3⟩
  have G3 : Fr (fun k => k = f) w w3 := (Fr.of_below HA2.out).trans F3 (fun _ _ h => h)
  have O3 := (HO.out.below HA2.out).fr F3 (by rintro g rfl; exact hu)
  have HF3 := Lib.hid hF3
  have HG3 := Lib.hid G3
  have HO3 := Lib.hid O3
  obtain ⟨c30, c31⟩ := two_cells z3
  clear hF3 G3 O3 hD2 hH2 hD3 hH3 hf2 A3 F3 z3 hu
  by_cases h0 : fuse = 0
  · have e7 : stepE fuse = 7 := if_pos h0
    rw [e7]
    go_wp2_with fail
    go_ret
    have hh := HF3.out
    rw [decide_eq_true h0] at hh
    exact ⟨by simp [stepE, h0], fun _ => hh, fun hn => (hn h0).elim, HG3.out.mono (fun _ _ h => Or.inl h)⟩
  · have e7 : stepE fuse = 0 := if_neg h0
    rw [e7]
    go_wp2_with fail
    have hh := HF3.out
    rw [decide_eq_false h0] at hh
    refine (hwhat.out h0 sa scap w3 HG3.out hh HO3.out hsc hsm).mono ?_
    rintro e w4 ⟨rfl, hF4, F4⟩
    have HF4 := Lib.hid hF4
    clear hF4 hh
    go_wp2_with fail
    go_ret
    exact ⟨by simp [stepE, h0], fun hn => (h0 hn).elim, fun _ => HF4.out, (HG3.out.mono (fun _ _ h => Or.inl h)).trans F4 (fun _ _ h => h)⟩

set_option maxRecDepth 100000 in
set_option maxHeartbeats 2000000 in
theorem does_truncate_ok (w : World) (f b m : Nat) (C : Disk) (steps fuse : Int) (h : Files w f b m C steps fuse false) (s : ByteArray) (hs : s.size ≤ maxLen) (c0 c1 c2 : Nat) (bs : List UInt8) (l : Nat) (hc : C s.data.toList = some (bs, l)) (h1 : 0 ≤ steps) (h2 : steps ≤ 1099511627776) (h4 : fuse ≤ 9223372036854775807) (m' : Nat) (C' : Disk)
    (hok : Hid (∀ sa scap w1, Below w.heap.size w w1 → OB w1 (.slice sa bs.length scap) bs → bs.length ≤ scap → scap ≤ 9223372036854775807 → Calls Tryz.prog 68 #[.agg #[.slice sa bs.length scap, .int .i64 l], .pointer (some ⟨c2, 0, none⟩)] w1 fun e w' => e = .returned (.bool true) ∧ Below w1.heap.size w1 w'))
    (hwhat : Hid (fuse ≠ 0 → ∀ sa scap w1, Fr (fun k => k = f) w w1 → Files w1 f b m C (steps + 1) (stepF fuse) false → OB w1 (.slice sa bs.length scap) bs → bs.length ≤ scap → scap ≤ 9223372036854775807 →
      Calls Tryz.prog 69 #[.agg #[.slice sa bs.length scap, .int .i64 l], .pointer (some ⟨c2, 0, none⟩), .pointer (some ⟨c0, 0, none⟩), .pointer (some ⟨c1, 0, none⟩)] w1 fun e w2 => e = .returned (.tuple #[]) ∧ Files w2 f b m' C' (steps + 1) (stepF fuse) false ∧ Fr (fun k => k = f ∨ k = b) w1 w2)) :
    Calls Tryz.prog 44 #[.pointer (some ⟨f, 0, none⟩), .string s, .func (.func 68) #[] #[.pointer (some ⟨c2, 0, none⟩)], .func (.func 69) #[] #[.pointer (some ⟨c2, 0, none⟩), .pointer (some ⟨c0, 0, none⟩), .pointer (some ⟨c1, 0, none⟩)]] w fun e w' => e = .returned (.int .i64 (stepE fuse)) ∧ (fuse = 0 → Files w' f b m C (steps + 1) (stepF fuse) true) ∧ (fuse ≠ 0 → Files w' f b m' C' (steps + 1) (stepF fuse) false) ∧ Fr (fun k => k = f ∨ k = b) w w' := by
  obtain ⟨D, hD, hH⟩ := h.map
  obtain ⟨sa, scap, _, lk2, hob, hcl, hsc, hsm⟩ := look hD hH s hs
  have e1 : cb C s.data.toList = bs := by simp [cb, hc]
  have e2 : cl C s.data.toList = l := by simp [cl, hc]
  rw [hc] at lk2
  rw [e1] at hob hsc lk2
  rw [e2] at lk2
  clear e1 e2 hcl
  have c1 := cell_at h.at_ 1
  simp at c1
  have HF := Lib.hid h
  have HO := Lib.hid hob
  clear hD hH h hob hc
  go_enter Tryz.func44, Tryz.ntmps44
  go_wp2_with fail
  refine (ready_any w f b m C steps fuse false HF.out).mono ?_
  rintro e w ⟨rfl, rfl⟩
  go_wp2_with fail
  have hA : Below w.heap.size w (w.alloc (.cells #[.slice sa bs.length scap, .int .i64 l] 74)) := (Below.refl _ _).alloc (Nat.le_refl _) _
  have z1 := heap_alloc_new w (.cells #[.slice sa bs.length scap, .int .i64 l] 74)
  have hsz : (w.alloc (.cells #[.slice sa bs.length scap, .int .i64 l] 74)).heap.size = w.heap.size + 1 := by simp
  generalize w.alloc (.cells #[.slice sa bs.length scap, .int .i64 l] 74) = w1 at *
  refine (hok.out sa scap w1 hA (HO.out.below hA) hsc hsm).mono ?_
  rintro e w2 ⟨rfl, hb2⟩
  have z2 := (hb2.block w.heap.size (by omega)).trans z1
  have hA2 : Below w.heap.size w w2 := hA.trans (hb2.mono (by omega))
  have hs2 := hb2.size
  have Z2 := Lib.hid z2
  have HA2 := Lib.hid hA2
  clear z1 hA hb2 c1 lk2 z2 hA2
  go_wp2_with fail
  refine (step_any w2 f b steps fuse (HF.out.below HA2.out).at_ h1 h2 h4).mono ?_
  rintro e w3 ⟨rfl, A3, F3⟩
  have z3 := F3.obj Z2.out (Nat.ne_of_gt (lt_of_obj HF.out.at_))
  have hu : ¬ Tag w2 f 5 := Tag.not (HF.out.below HA2.out).at_ (by decide)
  have hf2 := HF.out.below HA2.out
  obtain ⟨D2, hD2, hH2⟩ := hf2.map
  have hD3 := hD2.fr F3 (fun e => HF.out.f_ne e.symm)
  have hH3 := hH2.fr F3 (by rintro g rfl; exact hu)
  have hF3 : Files w3 f b m C (steps + 1) (stepF fuse) (decide (fuse = 0)) := ⟨A3, D2, hD3, hH3⟩
  have G3 : Fr (fun k => k = f) w w3 := (Fr.of_below HA2.out).trans F3 (fun _ _ h => h)
  have O3 := (HO.out.below HA2.out).fr F3 (by rintro g rfl; exact hu)
  have HF3 := Lib.hid hF3
  have HG3 := Lib.hid G3
  have HO3 := Lib.hid O3
  obtain ⟨c30, c31⟩ := two_cells z3
  clear hF3 G3 O3 hD2 hH2 hD3 hH3 hf2 A3 F3 z3 hu
  by_cases h0 : fuse = 0
  · have e7 : stepE fuse = 7 := if_pos h0
    rw [e7]
    go_wp2_with fail
    go_ret
    have hh := HF3.out
    rw [decide_eq_true h0] at hh
    exact ⟨by simp [stepE, h0], fun _ => hh, fun hn => (hn h0).elim, HG3.out.mono (fun _ _ h => Or.inl h)⟩
  · have e7 : stepE fuse = 0 := if_neg h0
    rw [e7]
    go_wp2_with fail
    have hh := HF3.out
    rw [decide_eq_false h0] at hh
    refine (hwhat.out h0 sa scap w3 HG3.out hh HO3.out hsc hsm).mono ?_
    rintro e w4 ⟨rfl, hF4, F4⟩
    have HF4 := Lib.hid hF4
    clear hF4 hh
    go_wp2_with fail
    go_ret
    exact ⟨by simp [stepE, h0], fun hn => (h0 hn).elim, fun _ => HF4.out, (HG3.out.mono (fun _ _ h => Or.inl h)).trans F4 (fun _ _ h => h)⟩

set_option maxRecDepth 100000 in
set_option maxHeartbeats 2000000 in
theorem does_truncate_no (w : World) (f b m : Nat) (C : Disk) (steps fuse : Int) (h : Files w f b m C steps fuse false) (s : ByteArray) (hs : s.size ≤ maxLen) (c0 c1 c2 : Nat) (bs : List UInt8) (l : Nat) (hc : C s.data.toList = some (bs, l))
    (hok : Hid (∀ sa scap w1, Below w.heap.size w w1 → OB w1 (.slice sa bs.length scap) bs → bs.length ≤ scap → scap ≤ 9223372036854775807 → Calls Tryz.prog 68 #[.agg #[.slice sa bs.length scap, .int .i64 l], .pointer (some ⟨c2, 0, none⟩)] w1 fun e w' => e = .returned (.bool false) ∧ Below w1.heap.size w1 w')) :
    Calls Tryz.prog 44 #[.pointer (some ⟨f, 0, none⟩), .string s, .func (.func 68) #[] #[.pointer (some ⟨c2, 0, none⟩)], .func (.func 69) #[] #[.pointer (some ⟨c2, 0, none⟩), .pointer (some ⟨c0, 0, none⟩), .pointer (some ⟨c1, 0, none⟩)]] w fun e w' => e = .returned (.int .i64 1) ∧ Below w.heap.size w w' := by
  obtain ⟨D, hD, hH⟩ := h.map
  obtain ⟨sa, scap, _, lk2, hob, hcl, hsc, hsm⟩ := look hD hH s hs
  have e1 : cb C s.data.toList = bs := by simp [cb, hc]
  have e2 : cl C s.data.toList = l := by simp [cl, hc]
  rw [hc] at lk2
  rw [e1] at hob hsc lk2
  rw [e2] at lk2
  clear e1 e2 hcl
  have c1 := cell_at h.at_ 1
  simp at c1
  have HF := Lib.hid h
  have HO := Lib.hid hob
  clear hD hH h hob hc
  go_enter Tryz.func44, Tryz.ntmps44
  go_wp2_with fail
  refine (ready_any w f b m C steps fuse false HF.out).mono ?_
  rintro e w ⟨rfl, rfl⟩
  go_wp2_with fail
  have hA : Below w.heap.size w (w.alloc (.cells #[.slice sa bs.length scap, .int .i64 l] 74)) := (Below.refl _ _).alloc (Nat.le_refl _) _
  have z1 := heap_alloc_new w (.cells #[.slice sa bs.length scap, .int .i64 l] 74)
  have hsz : (w.alloc (.cells #[.slice sa bs.length scap, .int .i64 l] 74)).heap.size = w.heap.size + 1 := by simp
  generalize w.alloc (.cells #[.slice sa bs.length scap, .int .i64 l] 74) = w1 at *
  refine (hok.out sa scap w1 hA (HO.out.below hA) hsc hsm).mono ?_
  rintro e w2 ⟨rfl, hb2⟩
  have z2 := (hb2.block w.heap.size (by omega)).trans z1
  have hA2 : Below w.heap.size w w2 := hA.trans (hb2.mono (by omega))
  have hs2 := hb2.size
  have Z2 := Lib.hid z2
  have HA2 := Lib.hid hA2
  clear z1 hA hb2 c1 lk2 z2 hA2
  go_wp2_with fail
  go_ret
  exact ⟨rfl, HA2.out⟩

set_option maxRecDepth 100000 in
set_option maxHeartbeats 2000000 in
theorem does_remove_ok (w : World) (f b m : Nat) (C : Disk) (steps fuse : Int) (h : Files w f b m C steps fuse false) (s : ByteArray) (hs : s.size ≤ maxLen) (c0 c1 : Nat) (bs : List UInt8) (l : Nat) (hc : C s.data.toList = some (bs, l)) (h1 : 0 ≤ steps) (h2 : steps ≤ 1099511627776) (h4 : fuse ≤ 9223372036854775807) (m' : Nat) (C' : Disk)
    (hok : Hid (∀ sa scap w1, Below w.heap.size w w1 → OB w1 (.slice sa bs.length scap) bs → bs.length ≤ scap → scap ≤ 9223372036854775807 → Calls Tryz.prog 45 #[.agg #[.slice sa bs.length scap, .int .i64 l]] w1 fun e w' => e = .returned (.bool true) ∧ Below w1.heap.size w1 w'))
    (hwhat : Hid (fuse ≠ 0 → ∀ sa scap w1, Fr (fun k => k = f) w w1 → Files w1 f b m C (steps + 1) (stepF fuse) false → OB w1 (.slice sa bs.length scap) bs → bs.length ≤ scap → scap ≤ 9223372036854775807 →
      Calls Tryz.prog 46 #[.agg #[.slice sa bs.length scap, .int .i64 l], .pointer (some ⟨c0, 0, none⟩), .pointer (some ⟨c1, 0, none⟩)] w1 fun e w2 => e = .returned (.tuple #[]) ∧ Files w2 f b m' C' (steps + 1) (stepF fuse) false ∧ Fr (fun k => k = f ∨ k = b) w1 w2)) :
    Calls Tryz.prog 44 #[.pointer (some ⟨f, 0, none⟩), .string s, .func (.func 45) #[] #[], .func (.func 46) #[] #[.pointer (some ⟨c0, 0, none⟩), .pointer (some ⟨c1, 0, none⟩)]] w fun e w' => e = .returned (.int .i64 (stepE fuse)) ∧ (fuse = 0 → Files w' f b m C (steps + 1) (stepF fuse) true) ∧ (fuse ≠ 0 → Files w' f b m' C' (steps + 1) (stepF fuse) false) ∧ Fr (fun k => k = f ∨ k = b) w w' := by
  obtain ⟨D, hD, hH⟩ := h.map
  obtain ⟨sa, scap, _, lk2, hob, hcl, hsc, hsm⟩ := look hD hH s hs
  have e1 : cb C s.data.toList = bs := by simp [cb, hc]
  have e2 : cl C s.data.toList = l := by simp [cl, hc]
  rw [hc] at lk2
  rw [e1] at hob hsc lk2
  rw [e2] at lk2
  clear e1 e2 hcl
  have c1 := cell_at h.at_ 1
  simp at c1
  have HF := Lib.hid h
  have HO := Lib.hid hob
  clear hD hH h hob hc
  go_enter Tryz.func44, Tryz.ntmps44
  go_wp2_with fail
  refine (ready_any w f b m C steps fuse false HF.out).mono ?_
  rintro e w ⟨rfl, rfl⟩
  go_wp2_with fail
  have hA : Below w.heap.size w (w.alloc (.cells #[.slice sa bs.length scap, .int .i64 l] 74)) := (Below.refl _ _).alloc (Nat.le_refl _) _
  have z1 := heap_alloc_new w (.cells #[.slice sa bs.length scap, .int .i64 l] 74)
  have hsz : (w.alloc (.cells #[.slice sa bs.length scap, .int .i64 l] 74)).heap.size = w.heap.size + 1 := by simp
  generalize w.alloc (.cells #[.slice sa bs.length scap, .int .i64 l] 74) = w1 at *
  refine (hok.out sa scap w1 hA (HO.out.below hA) hsc hsm).mono ?_
  rintro e w2 ⟨rfl, hb2⟩
  have z2 := (hb2.block w.heap.size (by omega)).trans z1
  have hA2 : Below w.heap.size w w2 := hA.trans (hb2.mono (by omega))
  have hs2 := hb2.size
  have Z2 := Lib.hid z2
  have HA2 := Lib.hid hA2
  clear z1 hA hb2 c1 lk2 z2 hA2
  go_wp2_with fail
  refine (step_any w2 f b steps fuse (HF.out.below HA2.out).at_ h1 h2 h4).mono ?_
  rintro e w3 ⟨rfl, A3, F3⟩
  have z3 := F3.obj Z2.out (Nat.ne_of_gt (lt_of_obj HF.out.at_))
  have hu : ¬ Tag w2 f 5 := Tag.not (HF.out.below HA2.out).at_ (by decide)
  have hf2 := HF.out.below HA2.out
  obtain ⟨D2, hD2, hH2⟩ := hf2.map
  have hD3 := hD2.fr F3 (fun e => HF.out.f_ne e.symm)
  have hH3 := hH2.fr F3 (by rintro g rfl; exact hu)
  have hF3 : Files w3 f b m C (steps + 1) (stepF fuse) (decide (fuse = 0)) := ⟨A3, D2, hD3, hH3⟩
  have G3 : Fr (fun k => k = f) w w3 := (Fr.of_below HA2.out).trans F3 (fun _ _ h => h)
  have O3 := (HO.out.below HA2.out).fr F3 (by rintro g rfl; exact hu)
  have HF3 := Lib.hid hF3
  have HG3 := Lib.hid G3
  have HO3 := Lib.hid O3
  obtain ⟨c30, c31⟩ := two_cells z3
  clear hF3 G3 O3 hD2 hH2 hD3 hH3 hf2 A3 F3 z3 hu
  by_cases h0 : fuse = 0
  · have e7 : stepE fuse = 7 := if_pos h0
    rw [e7]
    go_wp2_with fail
    go_ret
    have hh := HF3.out
    rw [decide_eq_true h0] at hh
    exact ⟨by simp [stepE, h0], fun _ => hh, fun hn => (hn h0).elim, HG3.out.mono (fun _ _ h => Or.inl h)⟩
  · have e7 : stepE fuse = 0 := if_neg h0
    rw [e7]
    go_wp2_with fail
    have hh := HF3.out
    rw [decide_eq_false h0] at hh
    refine (hwhat.out h0 sa scap w3 HG3.out hh HO3.out hsc hsm).mono ?_
    rintro e w4 ⟨rfl, hF4, F4⟩
    have HF4 := Lib.hid hF4
    clear hF4 hh
    go_wp2_with fail
    go_ret
    exact ⟨by simp [stepE, h0], fun hn => (h0 hn).elim, fun _ => HF4.out, (HG3.out.mono (fun _ _ h => Or.inl h)).trans F4 (fun _ _ h => h)⟩

end Go.Proofs.YtpnlcogbahjnoaaGreat.F
