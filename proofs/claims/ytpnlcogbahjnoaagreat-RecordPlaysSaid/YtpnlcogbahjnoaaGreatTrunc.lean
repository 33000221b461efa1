/- Remove, Truncate, and their closures. Conditions stand at each theorem. -/
import Derived.Test.YtpnlcogbahjnoaaGreatDeeds
namespace Go.Proofs.YtpnlcogbahjnoaaGreat.F
open Go.RowKit Go.Proofs.YtpnlcogbahjnoaaGreat.M
set_option linter.unusedVariables false

theorem two_boxes (w : World) (x y : Value) (t1 t2 : TypeId) : Below w.heap.size w ((w.alloc (.cells #[x] t1)).alloc (.cells #[y] t2)) ∧
    Box ((w.alloc (.cells #[x] t1)).alloc (.cells #[y] t2)) w.heap.size x ∧ Box ((w.alloc (.cells #[x] t1)).alloc (.cells #[y] t2)) (w.heap.size + 1) y := by
  refine ⟨((Below.refl _ w).alloc (Nat.le_refl _) _).alloc (by simp) _, ⟨t1, ?_⟩, ⟨t2, ?_⟩⟩
  · exact (Below.heap_alloc _ _ _ (by simp)).trans (heap_alloc_new w _)
  · have := heap_alloc_new (w.alloc (.cells #[x] t1)) (.cells #[y] t2)
    simpa using this

set_option maxRecDepth 100000 in
set_option maxHeartbeats 2000000 in
theorem remove1_any (w : World) (f b m : Nat) (C : Disk) (steps fuse : Int) (dead : Bool) (h : Files w f b m C steps fuse dead) (s : ByteArray) (hs : s.size ≤ maxLen) (cs : Array Value)
    (p0 p1 : Nat) (b0 : Box w p0 (.pointer (some ⟨f, 0, none⟩))) (b1 : Box w p1 (.string s)) :
    Calls Tryz.prog 46 #[.agg cs, .pointer (some ⟨p0, 0, none⟩), .pointer (some ⟨p1, 0, none⟩)] w fun e w' => e = .returned (.tuple #[]) ∧
      Files w' f b m (upd C s.data.toList none) steps fuse dead ∧ Fr (fun k => k = f ∨ k = b) w w' := by
  have HF := Lib.hid h
  have B0 := Lib.hid b0
  have B1 := Lib.hid b1
  clear h b0 b1
  go_enter Tryz.func46, Tryz.ntmps46
  go_upto_region 1 with fail
  have hA : Below w.heap.size w (w.alloc (.cells cs 74)) := (Below.refl _ _).alloc (Nat.le_refl _) _
  generalize w.alloc (.cells cs 74) = w1 at *
  have F1 := HF.out.below hA
  have c1 := cell_at F1.at_ 1
  simp at c1
  have c0 := (B0.out.below hA).cell
  have cp1 := (B1.out.below hA).cell
  obtain ⟨w5, hrun, hF5, G5, E5⟩ := files_del HF.out (Fr.of_below hA) s hs 0
  have n0 := (B0.out.below hA).not_map F1
  have n1 := (B1.out.below hA).not_map F1
  have d1 := E5.cell_some c1 HF.out.f_ne
  have d0 := E5.cell_some c0 n0
  have dp1 := E5.cell_some cp1 n1
  have HF5 := Lib.hid hF5
  have HG5 := Lib.hid G5
  clear hF5 G5 E5 F1 hA n0 n1
  go_region_held3 (fun w' => w'.cell? ⟨f, 1, none⟩ = some (.map (some b)) ∧ w'.cell? ⟨p0, 0, none⟩ = some (.pointer (some ⟨f, 0, none⟩)) ∧ w'.cell? ⟨p1, 0, none⟩ = some (.string s)) (simp [*]) (fail)
  go_wp2_with fail
  go_end0
  exact ⟨rfl, HF5.out, HG5.out⟩

set_option maxRecDepth 100000 in
set_option maxHeartbeats 2000000 in
theorem remove_ok (w : World) (f b m : Nat) (C : Disk) (steps fuse : Int) (h : Files w f b m C steps fuse false) (s : ByteArray) (hs : s.size ≤ maxLen) (bs : List UInt8) (l : Nat) (hc : C s.data.toList = some (bs, l))
    (h1 : 0 ≤ steps) (h2 : steps ≤ 1099511627776) (h4 : fuse ≤ 9223372036854775807) :
    Calls Tryz.prog 24 #[.pointer (some ⟨f, 0, none⟩), .string s] w fun e w' => e = .returned (.int .i64 (stepE fuse)) ∧
      Files w' f b m (ifz fuse C (upd C s.data.toList none)) (steps + 1) (stepF fuse) (decide (fuse = 0)) ∧ Fr (fun k => k = f ∨ k = b) w w' := by
  have HF := Lib.hid h
  clear h
  have hf := lt_of_obj HF.out.at_
  go_enter Tryz.func24, Tryz.ntmps24
  go_wp2_with fail
  obtain ⟨hA, b0, b1⟩ := two_boxes w (.pointer (some ⟨f, 0, none⟩)) (.string s) 26 9
  generalize (w.alloc (.cells #[.pointer (some ⟨f, 0, none⟩)] 26)).alloc (.cells #[.string s] 9) = w2 at *
  refine (does_remove_ok w2 f b m C steps fuse (HF.out.below hA) s hs _ _ bs l hc h1 h2 h4 m _ (Lib.hid (fun sa scap w1 _ _ _ _ => always_any w1 _)) (Lib.hid (fun _ sa scap w1 F1 hF1 ho a1 a2 => remove1_any w1 f b m C (steps + 1) (stepF fuse) false hF1 s hs _ _ _ (b0.fr F1 (by omega)) (b1.fr F1 (by omega))))).mono ?_
  rintro e w5 ⟨rfl, g0, g1, F5⟩
  have G := Lib.hid (files_if g0 g1 (by omega))
  clear g0 g1 b0 b1
  go_wp2_with fail
  go_ret
  exact ⟨rfl, G.out, (Fr.of_below hA).trans F5 (fun _ _ h => h)⟩

def mayCut (n : Int) (bs : List UInt8) : Bool := decide (0 ≤ n ∧ n ≤ bs.length)
set_option maxRecDepth 100000 in
set_option maxHeartbeats 1000000 in
theorem trunc1_any (w : World) (bs : List UInt8) (l : Nat) (sa : Option Addr) (scap : Nat) (h1 : bs.length ≤ scap) (h2 : scap ≤ 9223372036854775807) (n : Int) (p2 : Nat) (b2 : Box w p2 (.int .i64 n)) :
    Calls Tryz.prog 68 #[.agg #[.slice sa bs.length scap, .int .i64 l], .pointer (some ⟨p2, 0, none⟩)] w fun e w' => e = .returned (.bool (mayCut n bs)) ∧ Below w.heap.size w w' := by
  have hA : Below w.heap.size w (w.alloc (.cells #[.slice sa bs.length scap, .int .i64 l] 74)) := (Below.refl _ _).alloc (Nat.le_refl _) _
  have z1 := heap_alloc_new w (.cells #[.slice sa bs.length scap, .int .i64 l] 74)
  have c2 := (b2.below hA).cell
  obtain ⟨cz0, cz1⟩ := two_cells z1
  have HA := Lib.hid hA
  clear b2 hA z1
  by_cases hn : 0 ≤ n
  · by_cases hn2 : n ≤ bs.length
    · have e1 : mayCut n bs = true := decide_eq_true ⟨hn, hn2⟩
      rw [e1]
      clear e1
      go_enter Tryz.func68, Tryz.ntmps68
      go_wp2_with fail
      go_ret
      exact ⟨rfl, HA.out⟩
    · have e1 : mayCut n bs = false := decide_eq_false (fun h => hn2 h.2)
      rw [e1]
      clear e1
      go_enter Tryz.func68, Tryz.ntmps68
      go_wp2_with fail
      go_ret
      exact ⟨rfl, HA.out⟩
  · have e1 : mayCut n bs = false := decide_eq_false (fun h => hn h.1)
    rw [e1]
    clear e1
    go_enter Tryz.func68, Tryz.ntmps68
    go_wp2_with fail
    go_ret
    exact ⟨rfl, HA.out⟩

set_option maxRecDepth 100000 in
set_option maxHeartbeats 4000000 in
theorem trunc2_any (w : World) (f b m : Nat) (C : Disk) (steps fuse : Int) (dead : Bool) (h : Files w f b m C steps fuse dead) (s : ByteArray) (hs : s.size ≤ maxLen) (bs : List UInt8) (l : Nat) (hl : l ≤ bs.length) (sa : Option Addr) (scap : Nat)
    (ho : OB w (.slice sa bs.length scap) bs) (h1 : bs.length ≤ scap) (h2 : scap ≤ 9223372036854775807) (hb : bs.length ≤ 1099511627776) (hm : m ≤ 1099511627776) (n : Nat) (hn : n ≤ bs.length) (p0 p1 p2 : Nat) (b0 : Box w p0 (.pointer (some ⟨f, 0, none⟩))) (b1 : Box w p1 (.string s)) (b2 : Box w p2 (.int .i64 n)) :
    Calls Tryz.prog 69 #[.agg #[.slice sa bs.length scap, .int .i64 l], .pointer (some ⟨p2, 0, none⟩), .pointer (some ⟨p0, 0, none⟩), .pointer (some ⟨p1, 0, none⟩)] w fun e w' => e = .returned (.tuple #[]) ∧
      Files w' f b (m + 1) (upd C s.data.toList (some (bs.take n, min l n))) steps fuse dead ∧ Fr (fun k => k = f ∨ k = b) w w' := by
  obtain ⟨i5, hi5, hz0, hz1, hz2⟩ := info_parts info5
  have HF := Lib.hid h
  have HO := Lib.hid ho
  have B0 := Lib.hid b0
  have B1 := Lib.hid b1
  have B2 := Lib.hid b2
  have Hi5 := Lib.hid hi5
  have Hz1 := Lib.hid hz1
  clear h ho b0 b1 b2 hi5 hz0 hz1 hz2
  go_enter Tryz.func69, Tryz.ntmps69
  go_upto_region 1 with fail
  have hA : Below w.heap.size w (w.alloc (.cells #[.slice sa bs.length scap, .int .i64 l] 74)) := (Below.refl _ _).alloc (Nat.le_refl _) _
  have z1 := heap_alloc_new w (.cells #[.slice sa bs.length scap, .int .i64 l] 74)
  have hsz : (w.alloc (.cells #[.slice sa bs.length scap, .int .i64 l] 74)).heap.size = w.heap.size + 1 := by simp
  generalize w.alloc (.cells #[.slice sa bs.length scap, .int .i64 l] 74) = w4 at *
  have F1 := HF.out.below hA
  have cq1 := cell_at F1.at_ 1
  simp at cq1
  have c0 := (B0.out.below hA).cell
  have cp1 := (B1.out.below hA).cell
  have cp2 := (B2.out.below hA).cell
  obtain ⟨cz0, cz1⟩ := two_cells z1
  have HA := Lib.hid hA
  obtain ⟨ta, tcap, hsl, hrt, _, htm, htc⟩ := slice_to 52 5 Tryz.underlying52 i5 Hi5.out w4 1 Hz1.out _ _ _ (HO.out.1.below HA.out) n hn
  have htl : (bs.take n).length = n := by simp; omega
  have hbt : Bytes w4 (.slice ta n tcap) (bs.take n) := by
    unfold Bytes
    rw [htl, List.map_take]
    simpa using hrt
  have HBT := Lib.hid hbt
  have HTL := Lib.hid htl
  have tz : Tag w4 w.heap.size 74 := ⟨_, _, z1⟩
  have nz : ¬ w.heap.size = b := fun e => F1.not_tag _ (e ▸ tz)
  have n0 := (B0.out.below hA).not_map F1
  have n1 := (B1.out.below hA).not_map F1
  have n2 := (B2.out.below hA).not_map F1
  have hlz : w.heap.size < w4.heap.size := by omega
  have hlf : f < w4.heap.size := lt_of_obj F1.at_
  have hlp0 : p0 < w4.heap.size := World.block_lt_of_cell? w4 _ c0
  have hlp1 : p1 < w4.heap.size := World.block_lt_of_cell? w4 _ cp1
  have hlp2 : p2 < w4.heap.size := World.block_lt_of_cell? w4 _ cp2
  have N0 := Lib.hid n0
  have N1 := Lib.hid n1
  have N2 := Lib.hid n2
  clear hrt htc htm hbt htl n0 n1 n2 tz z1 hA F1
  by_cases hln : l ≤ n
  · have emin : ((min l n : Nat) : Int) = (l : Int) := by omega
    have HEM := Lib.hid emin
    clear emin
    go_region_held3 (fun w' => w'.cell? ⟨f, 1, none⟩ = some (.map (some b)) ∧ w'.cell? ⟨p0, 0, none⟩ = some (.pointer (some ⟨f, 0, none⟩)) ∧ w'.cell? ⟨p1, 0, none⟩ = some (.string s) ∧ w'.cell? ⟨p2, 0, none⟩ = some (.int .i64 n) ∧ w'.cell? ⟨w.heap.size, 0, none⟩ = some (.slice sa bs.length scap) ∧ w'.cell? ⟨w.heap.size, 1, none⟩ = some (.int .i64 l)) (simp [*]) (first | (go_at_call 33; refine (clone_any w4.drew _ (bs.take n) HBT.out (by rw [HTL.out]; omega)).mono ?_; rintro e w5 ⟨v5, rfl, ho5, hb5⟩; rw [HTL.out] at ho5; obtain ⟨va5, vc5, rfl, hv51, hv52⟩ := ho5.reads.shape; obtain ⟨w6, hrun, hF6, G6, E6⟩ := files_put' HF.out ((Fr.of_below HA.out).drew.trans (Fr.of_below hb5) (fun _ _ h => h)) s hs hm (.slice va5 n vc5) (bs.take n) (min l n) (by rw [HTL.out]; omega) ho5.ob; rw [HEM.out] at hrun; have q1 := ((hb5.cell (p := ⟨f, 1, none⟩) hlf).trans cq1); have q2 := ((hb5.cell (p := ⟨w.heap.size, 0, none⟩) hlz).trans cz0); have q3 := ((hb5.cell (p := ⟨w.heap.size, 1, none⟩) hlz).trans cz1); have q4 := ((hb5.cell (p := ⟨p0, 0, none⟩) hlp0).trans c0); have q5 := ((hb5.cell (p := ⟨p1, 0, none⟩) hlp1).trans cp1); have q6 := ((hb5.cell (p := ⟨p2, 0, none⟩) hlp2).trans cp2); have r1 := E6.cell_some q1 HF.out.f_ne; have r2 := E6.cell_some q2 nz; have r3 := E6.cell_some q3 nz; have r4 := E6.cell_some q4 N0.out; have r5 := E6.cell_some q5 N1.out; have r6 := E6.cell_some q6 N2.out; have HF6 := Lib.hid hF6; have HG6 := Lib.hid G6; clear hF6 G6 E6 ho5 hb5))
    all_goals (go_wp2_with fail)
    all_goals (go_end0; exact ⟨rfl, HF6.out, HG6.out⟩)
  · have emin : ((min l n : Nat) : Int) = (n : Int) := by omega
    have HEM := Lib.hid emin
    clear emin
    go_region_held3 (fun w' => w'.cell? ⟨f, 1, none⟩ = some (.map (some b)) ∧ w'.cell? ⟨p0, 0, none⟩ = some (.pointer (some ⟨f, 0, none⟩)) ∧ w'.cell? ⟨p1, 0, none⟩ = some (.string s) ∧ w'.cell? ⟨p2, 0, none⟩ = some (.int .i64 n) ∧ w'.cell? ⟨w.heap.size, 0, none⟩ = some (.slice sa bs.length scap) ∧ w'.cell? ⟨w.heap.size, 1, none⟩ = some (.int .i64 l)) (simp [*]) (first | (go_at_call 33; refine (clone_any w4.drew _ (bs.take n) HBT.out (by rw [HTL.out]; omega)).mono ?_; rintro e w5 ⟨v5, rfl, ho5, hb5⟩; rw [HTL.out] at ho5; obtain ⟨va5, vc5, rfl, hv51, hv52⟩ := ho5.reads.shape; obtain ⟨w6, hrun, hF6, G6, E6⟩ := files_put' HF.out ((Fr.of_below HA.out).drew.trans (Fr.of_below hb5) (fun _ _ h => h)) s hs hm (.slice va5 n vc5) (bs.take n) (min l n) (by rw [HTL.out]; omega) ho5.ob; rw [HEM.out] at hrun; have q1 := ((hb5.cell (p := ⟨f, 1, none⟩) hlf).trans cq1); have q2 := ((hb5.cell (p := ⟨w.heap.size, 0, none⟩) hlz).trans cz0); have q3 := ((hb5.cell (p := ⟨w.heap.size, 1, none⟩) hlz).trans cz1); have q4 := ((hb5.cell (p := ⟨p0, 0, none⟩) hlp0).trans c0); have q5 := ((hb5.cell (p := ⟨p1, 0, none⟩) hlp1).trans cp1); have q6 := ((hb5.cell (p := ⟨p2, 0, none⟩) hlp2).trans cp2); have r1 := E6.cell_some q1 HF.out.f_ne; have r2 := E6.cell_some q2 nz; have r3 := E6.cell_some q3 nz; have r4 := E6.cell_some q4 N0.out; have r5 := E6.cell_some q5 N1.out; have r6 := E6.cell_some q6 N2.out; have HF6 := Lib.hid hF6; have HG6 := Lib.hid G6; clear hF6 G6 E6 ho5 hb5))
    all_goals (go_wp2_with fail)
    all_goals (go_end0; exact ⟨rfl, HF6.out, HG6.out⟩)

set_option maxRecDepth 100000 in
set_option maxHeartbeats 2000000 in
theorem truncate_ok (w : World) (f b m : Nat) (C : Disk) (steps fuse : Int) (h : Files w f b m C steps fuse false) (s : ByteArray) (hs : s.size ≤ maxLen) (n : Nat) (bs : List UInt8) (l : Nat) (hl : l ≤ bs.length) (hb : bs.length ≤ 1099511627776) (hn : n ≤ bs.length) (hc : C s.data.toList = some (bs, l))
    (hm : m ≤ 1099511627776) (h1 : 0 ≤ steps) (h2 : steps ≤ 1099511627776) (h4 : fuse ≤ 9223372036854775807) :
    Calls Tryz.prog 39 #[.pointer (some ⟨f, 0, none⟩), .string s, .int .i64 n] w fun e w' => e = .returned (.int .i64 (stepE fuse)) ∧
      Files w' f b (m + 1) (ifz fuse C (upd C s.data.toList (some (bs.take n, min l n)))) (steps + 1) (stepF fuse) (decide (fuse = 0)) ∧ Fr (fun k => k = f ∨ k = b) w w' := by
  have HF := Lib.hid h
  clear h
  have hf := lt_of_obj HF.out.at_
  go_enter Tryz.func39, Tryz.ntmps39
  go_wp2_with fail
  obtain ⟨hA, b0, b1, b2⟩ := three_boxes w (.pointer (some ⟨f, 0, none⟩)) (.string s) (.int .i64 n) 26 9 3
  generalize (((w.alloc (.cells #[.pointer (some ⟨f, 0, none⟩)] 26)).alloc (.cells #[.string s] 9)).alloc (.cells #[.int .i64 n] 3)) = w2 at *
  refine (does_truncate_ok w2 f b m C steps fuse (HF.out.below hA) s hs _ _ _ bs l hc h1 h2 h4 (m + 1) _ (Lib.hid (fun sa scap w1 hbw _ a1 a2 => ?_)) (Lib.hid (fun _ sa scap w1 F1 hF1 ho a1 a2 => trunc2_any w1 f b m C (steps + 1) (stepF fuse) false hF1 s hs bs l hl sa scap ho a1 a2 hb hm n hn _ _ _ (b0.fr F1 (by omega)) (b1.fr F1 (by omega)) (b2.fr F1 (by omega))))).mono ?_
  · have := trunc1_any w1 bs l sa scap a1 a2 n (w.heap.size + 2) (b2.below hbw)
    have e1 : mayCut n bs = true := decide_eq_true ⟨by omega, by omega⟩
    rw [e1] at this
    exact this
  rintro e w5 ⟨rfl, g0, g1, F5⟩
  have G := Lib.hid (files_if g0 g1 (by omega))
  clear g0 g1 b0 b1 b2
  go_wp2_with fail
  go_ret
  exact ⟨rfl, G.out, (Fr.of_below hA).trans F5 (fun _ _ h => h)⟩

set_option maxRecDepth 100000 in
set_option maxHeartbeats 2000000 in
theorem truncate_no (w : World) (f b m : Nat) (C : Disk) (steps fuse : Int) (h : Files w f b m C steps fuse false) (s : ByteArray) (hs : s.size ≤ maxLen) (n : Int) (bs : List UInt8) (l : Nat) (hn : mayCut n bs = false) (hc : C s.data.toList = some (bs, l)) :
    Calls Tryz.prog 39 #[.pointer (some ⟨f, 0, none⟩), .string s, .int .i64 n] w fun e w' => e = .returned (.int .i64 1) ∧ Below w.heap.size w w' := by
  have HF := Lib.hid h
  clear h
  go_enter Tryz.func39, Tryz.ntmps39
  go_wp2_with fail
  obtain ⟨hA, b0, b1, b2⟩ := three_boxes w (.pointer (some ⟨f, 0, none⟩)) (.string s) (.int .i64 n) 26 9 3
  generalize (((w.alloc (.cells #[.pointer (some ⟨f, 0, none⟩)] 26)).alloc (.cells #[.string s] 9)).alloc (.cells #[.int .i64 n] 3)) = w2 at *
  refine (does_truncate_no w2 f b m C steps fuse (HF.out.below hA) s hs _ _ _ bs l hc (Lib.hid (fun sa scap w1 hbw _ a1 a2 => ?_))).mono ?_
  · have := trunc1_any w1 bs l sa scap a1 a2 n (w.heap.size + 2) (b2.below hbw)
    rw [hn] at this
    exact this
  rintro e w5 ⟨rfl, F5⟩
  clear b0 b1 b2
  go_wp2_with fail
  go_ret
  exact ⟨rfl, hA.trans (F5.mono hA.size)⟩

end Go.Proofs.YtpnlcogbahjnoaaGreat.F
