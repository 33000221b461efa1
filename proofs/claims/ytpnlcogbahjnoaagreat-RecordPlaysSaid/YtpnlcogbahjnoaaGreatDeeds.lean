/- Sync, Truncate, Rename, Remove, and their closures. Conditions stand at each theorem. -/
import Derived.Test.YtpnlcogbahjnoaaGreatDoes
namespace Go.Proofs.YtpnlcogbahjnoaaGreat.F
open Go.RowKit Go.Proofs.YtpnlcogbahjnoaaGreat.M
set_option linter.unusedVariables false

set_option maxHeartbeats 400000 in
theorem always_any (w : World) (cs : Array Value) :
    Calls Tryz.prog 45 #[.agg cs] w fun e w' => e = .returned (.bool true) ∧ Below w.heap.size w w' := by
  go_enter Tryz.func45, Tryz.ntmps45
  go_wp2_with fail
  go_ret
  exact ⟨rfl, (Below.refl _ w).alloc (Nat.le_refl _) _⟩

/-- a store into the disk's map, in a statement that draws its order -/
theorem files_put {w w1 : World} {f b m : Nat} {C : Disk} {steps fuse : Int} {dead : Bool} (h : Files w f b m C steps fuse dead) (N : Fr (fun _ => False) w w1) (s : ByteArray) (hs : s.size ≤ maxLen) (hm : m ≤ 1099511627776)
    (sv : Value) (bs : List UInt8) (l : Nat) (hl : l ≤ bs.length) (ho : OB w1 sv bs) :
    ∃ w5, (Instr.mapUpdate 53 (.map (some b)) (.string s) (.agg #[sv, .int .i64 l])).run Tryz.prog w1.drew = .ok () w5 ∧ Files w5 f b (m + 1) (upd C s.data.toList (some (bs, l))) steps fuse dead ∧
      Fr (fun k => k = f ∨ k = b) w w5 ∧ Fr (fun k => k = b) w1 w5 := by
  obtain ⟨D, hD, hH⟩ := h.map
  have D4 : MapAt w1.drew b m D := (hD.fr N id).drew
  have H4 : Holds w1 D C := hH.fr N (fun _ h => h.elim)
  have hkk : keyOf Tryz.prog 9 (.string s) = some (.string s.data.toList) := WideMaps.keyOf_string_mk Tryz.underlying9 hs
  obtain ⟨w5, hrun, D5, T5⟩ := World.ownsMap.store D4 KS Tryz.underlying53 (by simp only [maxLen]; omega) hkk (val := .agg #[sv, .int .i64 l]) (d := .held (.agg #[sv, .int .i64 l])) (ps := []) rfl
  have F5 : Fr (fun k => k = b) w1 w5 := Fr.trans (S' := fun k => k = b) (Fr.drew (Fr.refl _ w1)) (Fr.turned T5) (fun _ _ h => h)
  have H5 := (H4.put (World.ownsMap.isMap D4) s.data.toList sv bs l hl ho).fr F5 (by rintro g rfl; exact MapAt.not_tag (w := w1) D4 _)
  refine ⟨w5, hrun, ⟨F5.obj (N.obj h.at_ id) h.f_ne, _, D5, H5⟩, ?_, F5⟩
  exact (N.mono (fun _ _ h => h.elim)).trans F5 (fun x _ h => Or.inr h)
/-- a store into the disk's map -/
theorem files_put' {w w1 : World} {f b m : Nat} {C : Disk} {steps fuse : Int} {dead : Bool} (h : Files w f b m C steps fuse dead) (N : Fr (fun _ => False) w w1) (s : ByteArray) (hs : s.size ≤ maxLen) (hm : m ≤ 1099511627776)
    (sv : Value) (bs : List UInt8) (l : Nat) (hl : l ≤ bs.length) (ho : OB w1 sv bs) :
    ∃ w5, (Instr.mapUpdate 53 (.map (some b)) (.string s) (.agg #[sv, .int .i64 l])).run Tryz.prog w1 = .ok () w5 ∧ Files w5 f b (m + 1) (upd C s.data.toList (some (bs, l))) steps fuse dead ∧
      Fr (fun k => k = f ∨ k = b) w w5 ∧ Fr (fun k => k = b) w1 w5 := by
  obtain ⟨D, hD, hH⟩ := h.map
  have D4 : MapAt w1 b m D := hD.fr N id
  have H4 : Holds w1 D C := hH.fr N (fun _ h => h.elim)
  have hkk : keyOf Tryz.prog 9 (.string s) = some (.string s.data.toList) := WideMaps.keyOf_string_mk Tryz.underlying9 hs
  obtain ⟨w5, hrun, D5, T5⟩ := World.ownsMap.store D4 KS Tryz.underlying53 (by simp only [maxLen]; omega) hkk (val := .agg #[sv, .int .i64 l]) (d := .held (.agg #[sv, .int .i64 l])) (ps := []) rfl
  have F5 : Fr (fun k => k = b) w1 w5 := Fr.turned T5
  have H5 := (H4.put (World.ownsMap.isMap D4) s.data.toList sv bs l hl ho).fr F5 (by rintro g rfl; exact MapAt.not_tag (w := w1) D4 _)
  refine ⟨w5, hrun, ⟨F5.obj (N.obj h.at_ id) h.f_ne, _, D5, H5⟩, ?_, F5⟩
  exact (N.mono (fun _ _ h => h.elim)).trans F5 (fun x _ h => Or.inr h)
/-- .. and one taken away -/
theorem files_del {w w1 : World} {f b m : Nat} {C : Disk} {steps fuse : Int} {dead : Bool} (h : Files w f b m C steps fuse dead) (N : Fr (fun _ => False) w w1) (s : ByteArray) (hs : s.size ≤ maxLen) (ty : TypeId) :
    ∃ w5, (Builtin.delete_ #[53, 9] ty #[.map (some b), .string s]).run Tryz.prog w1.drew = .ok (.tuple #[]) w5 ∧ Files w5 f b m (upd C s.data.toList none) steps fuse dead ∧
      Fr (fun k => k = f ∨ k = b) w w5 ∧ Fr (fun k => k = b) w1 w5 := by
  obtain ⟨D, hD, hH⟩ := h.map
  have D4 : MapAt w1.drew b m D := (hD.fr N id).drew
  have H4 : Holds w1 D C := hH.fr N (fun _ h => h.elim)
  have hkk : keyOf Tryz.prog 9 (.string s) = some (.string s.data.toList) := WideMaps.keyOf_string_mk Tryz.underlying9 hs
  obtain ⟨w5, hrun, D5, T5⟩ := World.ownsMap.drop D4 KS Tryz.underlying53 hkk ty
  have F5 : Fr (fun k => k = b) w1 w5 := Fr.trans (S' := fun k => k = b) (Fr.drew (Fr.refl _ w1)) (Fr.turned T5) (fun _ _ h => h)
  have H5 := (H4.del s.data.toList).fr F5 (by rintro g rfl; exact MapAt.not_tag (w := w1) D4 _)
  refine ⟨w5, hrun, ⟨F5.obj (N.obj h.at_ id) h.f_ne, _, D5, H5⟩, ?_, F5⟩
  exact (N.mono (fun _ _ h => h.elim)).trans F5 (fun x _ h => Or.inr h)

/-- block p is a box with the value v -/
def Box (w : World) (p : Nat) (v : Value) : Prop := ∃ t, w.heap[p]? = some (.cells #[v] t (0, 0))
theorem Box.cell {w : World} {p : Nat} {v : Value} (h : Box w p v) : w.cell? ⟨p, 0, none⟩ = some v := by
  obtain ⟨t, h⟩ := h
  simpa using cell_at h 0
theorem Box.below {w w' : World} {p : Nat} {v : Value} (h : Box w p v) (hb : Below w.heap.size w w') : Box w' p v := by
  obtain ⟨t, h⟩ := h
  exact ⟨t, (hb.block p (lt_of_obj h)).trans h⟩
theorem Box.fr {S : Nat → Prop} {w w' : World} {p : Nat} {v : Value} (h : Box w p v) (hf : Fr S w w') (hs : ¬ S p) : Box w' p v := by
  obtain ⟨t, h⟩ := h
  exact ⟨t, hf.obj h hs⟩


theorem Box.not_map {w : World} {f b m : Nat} {C : Disk} {steps fuse : Int} {dead : Bool} (h : Files w f b m C steps fuse dead) {p : Nat} {v : Value} (hb : Box w p v) : ¬ p = b := by
  rintro rfl
  obtain ⟨t, hb⟩ := hb
  exact h.not_tag t ⟨_, _, hb⟩

set_option maxRecDepth 100000 in
set_option maxHeartbeats 2000000 in
theorem sync1_any (w : World) (f b m : Nat) (C : Disk) (steps fuse : Int) (dead : Bool) (h : Files w f b m C steps fuse dead) (s : ByteArray) (hs : s.size ≤ maxLen) (bs : List UInt8) (l : Nat) (sa : Option Addr) (scap : Nat)
    (ho : OB w (.slice sa bs.length scap) bs) (h1 : bs.length ≤ scap) (h2 : scap ≤ 9223372036854775807) (hm : m ≤ 1099511627776) (p0 p1 : Nat) (b0 : Box w p0 (.pointer (some ⟨f, 0, none⟩))) (b1 : Box w p1 (.string s)) :
    Calls Tryz.prog 49 #[.agg #[.slice sa bs.length scap, .int .i64 l], .pointer (some ⟨p0, 0, none⟩), .pointer (some ⟨p1, 0, none⟩)] w fun e w' => e = .returned (.tuple #[]) ∧
      Files w' f b (m + 1) (upd C s.data.toList (some (bs, bs.length))) steps fuse dead ∧ Fr (fun k => k = f ∨ k = b) w w' := by
  have HF := Lib.hid h
  have HO := Lib.hid ho
  have B0 := Lib.hid b0
  have B1 := Lib.hid b1
  clear h ho b0 b1
  go_enter Tryz.func49, Tryz.ntmps49
  go_upto_region 1 with fail
  have hA : Below w.heap.size w (w.alloc (.cells #[.slice sa bs.length scap, .int .i64 l] 74)) := (Below.refl _ _).alloc (Nat.le_refl _) _
  have z1 := heap_alloc_new w (.cells #[.slice sa bs.length scap, .int .i64 l] 74)
  generalize w.alloc (.cells #[.slice sa bs.length scap, .int .i64 l] 74) = w1 at *
  have F1 := HF.out.below hA
  have c1 := cell_at F1.at_ 1
  simp at c1
  have c0 := (B0.out.below hA).cell
  have cp1 := (B1.out.below hA).cell
  obtain ⟨cz0, cz1⟩ := two_cells z1
  obtain ⟨w5, hrun, hF5, G5, E5⟩ := files_put HF.out (Fr.of_below hA) s hs hm (.slice sa bs.length scap) bs bs.length (Nat.le_refl _) (HO.out.below hA)
  have n0 := (B0.out.below hA).not_map F1
  have n1 := (B1.out.below hA).not_map F1
  have tz : Tag w1 w.heap.size 74 := ⟨_, _, z1⟩
  have nz : ¬ w.heap.size = b := fun e => F1.not_tag _ (e ▸ tz)
  have d1 := E5.cell_some c1 HF.out.f_ne
  have d0 := E5.cell_some c0 n0
  have dp1 := E5.cell_some cp1 n1
  have dz0 := E5.cell_some cz0 nz
  have HF5 := Lib.hid hF5
  have HG5 := Lib.hid G5
  clear hF5 G5 E5 F1 z1 hA n0 n1 nz tz cz1
  go_region_held3 (fun w' => w'.cell? ⟨f, 1, none⟩ = some (.map (some b)) ∧ w'.cell? ⟨p0, 0, none⟩ = some (.pointer (some ⟨f, 0, none⟩)) ∧ w'.cell? ⟨p1, 0, none⟩ = some (.string s) ∧ w'.cell? ⟨w.heap.size, 0, none⟩ = some (.slice sa bs.length scap)) (simp [*]) (fail)
  go_wp2_with fail
  go_end0
  exact ⟨rfl, HF5.out, HG5.out⟩

theorem Files.mono {w : World} {f b m m' : Nat} {C : Disk} {steps fuse : Int} {dead : Bool} (h : Files w f b m C steps fuse dead) (hm : m ≤ m') : Files w f b m' C steps fuse dead := by
  obtain ⟨D, hD, hH⟩ := h.map
  exact ⟨h.at_, D, World.ownsMap.mono hD hm, hH⟩
/-- at a fuse of 0 nothing is done -/
def ifz (fuse : Int) (C C' : Disk) : Disk := if fuse = 0 then C else C'
theorem files_if {w : World} {f b m m' : Nat} {C C' : Disk} {st fuse fu : Int} (h0 : fuse = 0 → Files w f b m C st fu true) (h1 : fuse ≠ 0 → Files w f b m' C' st fu false) (hm : m ≤ m') :
    Files w f b m' (ifz fuse C C') st fu (decide (fuse = 0)) := by
  unfold ifz
  by_cases h : fuse = 0
  · rw [if_pos h, decide_eq_true h]; exact (h0 h).mono hm
  · rw [if_neg h, decide_eq_false h]; exact h1 h

set_option maxRecDepth 100000 in
set_option maxHeartbeats 2000000 in
theorem sync_ok (w : World) (f b m : Nat) (C : Disk) (steps fuse : Int) (h : Files w f b m C steps fuse false) (s : ByteArray) (hs : s.size ≤ maxLen) (bs : List UInt8) (l : Nat) (hc : C s.data.toList = some (bs, l))
    (hm : m ≤ 1099511627776) (h1 : 0 ≤ steps) (h2 : steps ≤ 1099511627776) (h4 : fuse ≤ 9223372036854775807) :
    Calls Tryz.prog 26 #[.pointer (some ⟨f, 0, none⟩), .string s] w fun e w' => e = .returned (.int .i64 (stepE fuse)) ∧
      Files w' f b (m + 1) (ifz fuse C (upd C s.data.toList (some (bs, bs.length)))) (steps + 1) (stepF fuse) (decide (fuse = 0)) ∧ Fr (fun k => k = f ∨ k = b) w w' := by
  have HF := Lib.hid h
  clear h
  have hf := lt_of_obj HF.out.at_
  go_enter Tryz.func26, Tryz.ntmps26
  go_wp2_with fail
  have hA : Below w.heap.size w ((w.alloc (.cells #[.pointer (some ⟨f, 0, none⟩)] 26)).alloc (.cells #[.string s] 9)) := ((Below.refl _ w).alloc (Nat.le_refl _) _).alloc (by simp) _
  have b0 : Box ((w.alloc (.cells #[.pointer (some ⟨f, 0, none⟩)] 26)).alloc (.cells #[.string s] 9)) w.heap.size (.pointer (some ⟨f, 0, none⟩)) := ⟨_, (Below.heap_alloc _ _ _ (by simp)).trans (heap_alloc_new w _)⟩
  have b1 : Box ((w.alloc (.cells #[.pointer (some ⟨f, 0, none⟩)] 26)).alloc (.cells #[.string s] 9)) (w.heap.size + 1) (.string s) := ⟨_, by have := heap_alloc_new (w.alloc (.cells #[.pointer (some ⟨f, 0, none⟩)] 26)) (.cells #[.string s] 9); simpa using this⟩
  generalize (w.alloc (.cells #[.pointer (some ⟨f, 0, none⟩)] 26)).alloc (.cells #[.string s] 9) = w2 at *
  refine (does_sync_ok w2 f b m C steps fuse (HF.out.below hA) s hs _ _ bs l hc h1 h2 h4 (m + 1) _ (Lib.hid (fun sa scap w1 _ _ _ _ => always_any w1 _)) (Lib.hid (fun _ sa scap w1 F1 hF1 ho a1 a2 => sync1_any w1 f b m C (steps + 1) (stepF fuse) false hF1 s hs bs l sa scap ho a1 a2 hm _ _ (b0.fr F1 (by omega)) (b1.fr F1 (by omega))))).mono ?_
  rintro e w5 ⟨rfl, g0, g1, F5⟩
  have G := Lib.hid (files_if g0 g1 (by omega))
  clear g0 g1 b0 b1
  go_wp2_with fail
  go_ret
  exact ⟨rfl, G.out, (Fr.of_below hA).trans F5 (fun _ _ h => h)⟩

/-- the world behind Rename's boxes -/
theorem three_boxes (w : World) (x y z : Value) (t1 t2 t3 : TypeId) : Below w.heap.size w (((w.alloc (.cells #[x] t1)).alloc (.cells #[y] t2)).alloc (.cells #[z] t3)) ∧
    Box (((w.alloc (.cells #[x] t1)).alloc (.cells #[y] t2)).alloc (.cells #[z] t3)) w.heap.size x ∧ Box (((w.alloc (.cells #[x] t1)).alloc (.cells #[y] t2)).alloc (.cells #[z] t3)) (w.heap.size + 1) y ∧
      Box (((w.alloc (.cells #[x] t1)).alloc (.cells #[y] t2)).alloc (.cells #[z] t3)) (w.heap.size + 2) z := by
  refine ⟨(((Below.refl _ w).alloc (Nat.le_refl _) _).alloc (by simp) _).alloc (by simp; omega) _, ⟨t1, ?_⟩, ⟨t2, ?_⟩, ⟨t3, ?_⟩⟩
  · exact (Below.heap_alloc _ _ _ (by simp; omega)).trans ((Below.heap_alloc _ _ _ (by simp)).trans (heap_alloc_new w _))
  · refine (Below.heap_alloc _ _ _ (by simp)).trans ?_
    have := heap_alloc_new (w.alloc (.cells #[x] t1)) (.cells #[y] t2)
    simpa using this
  · have := heap_alloc_new ((w.alloc (.cells #[x] t1)).alloc (.cells #[y] t2)) (.cells #[z] t3)
    simpa using this

end Go.Proofs.YtpnlcogbahjnoaaGreat.F
