/- The reference's disk with one file. Conditions stand at each theorem. -/
import Derived.Test.YtpnlcogbahjnoaaGreatQScan
import Derived.Test.YtpnlcogbahjnoaaGreatLogApp
import Derived.Deep.RegionLaw
import Derived.BigRegion
namespace Go.Proofs.YtpnlcogbahjnoaaGreat.F
open Go.RowKit Go.Proofs.YtpnlcogbahjnoaaGreat.M
set_option linter.unusedVariables false

/-- block g is a disk of the reference whose files are L -/
def QD (w : World) (g : Nat) (L : Value) (st fu : Int) (dead : Bool) : Prop := w.heap[g]? = some (.cells #[L, .int .i64 st, .int .i64 fu, .bool dead] 48 (0, 0))
/-- from place o of block h on stands file s: its bytes x, of which l last -/
def QFile (w : World) (h o : Nat) (s : ByteArray) (x : List UInt8) (l : Nat) : Prop :=
  ∃ (cur : Array Value) (bv : Value), w.heap[h]? = some (.cells cur 76 (0, 0)) ∧ cur[o]? = some (.string s) ∧ cur[o + 1]? = some bv ∧ cur[o + 2]? = some (.int .i64 l) ∧ OB w bv x
theorem QD.fr {S : Nat → Prop} {w w' : World} {g : Nat} {L : Value} {st fu : Int} {dead : Bool} (h : QD w g L st fu dead) (hf : Fr S w w') (hg : ¬ S g) : QD w' g L st fu dead := hf.obj h hg
theorem QFile.fr {S : Nat → Prop} {w w' : World} {h o : Nat} {s : ByteArray} {x : List UInt8} {l : Nat} (hq : QFile w h o s x l) (hf : Fr S w w') (hh : ¬ S h) (hs : ∀ g, S g → ¬ Tag w g 5) : QFile w' h o s x l := by
  obtain ⟨cur, bv, h1, h2, h3, h4, h5⟩ := hq
  exact ⟨cur, bv, hf.obj h1 hh, h2, h3, h4, h5.fr hf hs⟩
theorem QD.tag {w : World} {g : Nat} {L : Value} {st fu : Int} {dead : Bool} (h : QD w g L st fu dead) : Tag w g 48 := ⟨_, _, h⟩
theorem QFile.tag {w : World} {h o : Nat} {s : ByteArray} {x : List UInt8} {l : Nat} (hq : QFile w h o s x l) : Tag w h 76 := by
  obtain ⟨cur, bv, h1, -⟩ := hq
  exact ⟨_, _, h1⟩
theorem QD.cells {w : World} {g : Nat} {L : Value} {st fu : Int} {dead : Bool} (h : QD w g L st fu dead) :
    w.cell? ⟨g, 0, none⟩ = some L ∧ w.cell? ⟨g, 1, none⟩ = some (.int .i64 st) ∧ w.cell? ⟨g, 2, none⟩ = some (.int .i64 fu) ∧ w.cell? ⟨g, 3, none⟩ = some (.bool dead) := by
  have c0 := cell_at h 0
  have c1 := cell_at h 1
  have c2 := cell_at h 2
  have c3 := cell_at h 3
  simp at c0 c1 c2 c3
  exact ⟨c0, c1, c2, c3⟩

theorem QD.set0 {w : World} {g : Nat} {L : Value} {st fu : Int} {dead : Bool} (h : QD w g L st fu dead) (v : Value) : QD (w.setCell ⟨g, 0, none⟩ (v)) g v st fu dead ∧ Fr (fun k => k = g) w (w.setCell ⟨g, 0, none⟩ (v)) := by
  have z := heap_setCell_at h 0 (v)
  exact ⟨by simpa [QD] using z, Fr.setCell (Fr.refl _ _) _ _ (fun _ => rfl)⟩
theorem QD.set1 {w : World} {g : Nat} {L : Value} {st fu : Int} {dead : Bool} (h : QD w g L st fu dead) (v : Int) : QD (w.setCell ⟨g, 1, none⟩ (.int .i64 v)) g L v fu dead ∧ Fr (fun k => k = g) w (w.setCell ⟨g, 1, none⟩ (.int .i64 v)) := by
  have z := heap_setCell_at h 1 (.int .i64 v)
  exact ⟨by simpa [QD] using z, Fr.setCell (Fr.refl _ _) _ _ (fun _ => rfl)⟩
theorem QD.set2 {w : World} {g : Nat} {L : Value} {st fu : Int} {dead : Bool} (h : QD w g L st fu dead) (v : Int) : QD (w.setCell ⟨g, 2, none⟩ (.int .i64 v)) g L st v dead ∧ Fr (fun k => k = g) w (w.setCell ⟨g, 2, none⟩ (.int .i64 v)) := by
  have z := heap_setCell_at h 2 (.int .i64 v)
  exact ⟨by simpa [QD] using z, Fr.setCell (Fr.refl _ _) _ _ (fun _ => rfl)⟩
theorem QD.set3 {w : World} {g : Nat} {L : Value} {st fu : Int} {dead : Bool} (h : QD w g L st fu dead) (v : Bool) : QD (w.setCell ⟨g, 3, none⟩ (.bool v)) g L st fu v ∧ Fr (fun k => k = g) w (w.setCell ⟨g, 3, none⟩ (.bool v)) := by
  have z := heap_setCell_at h 3 (.bool v)
  exact ⟨by simpa [QD] using z, Fr.setCell (Fr.refl _ _) _ _ (fun _ => rfl)⟩

set_option maxHeartbeats 400000 in
theorem qnew_any (w : World) :
    Calls Tryz.prog 7 #[] w fun e w' => e = .returned (.pointer (some ⟨w.heap.size, 0, none⟩)) ∧ QD w' w.heap.size (.slice none 0 0) 0 (-1) false ∧ Below w.heap.size w w' := by
  go_enter Tryz.func7, Tryz.ntmps7
  go_wp2_with fail
  go_ret
  exact ⟨rfl, heap_alloc_new w (.cells #[.slice none 0 0, .int .i64 0, .int .i64 (-1), .bool false] 48), (Below.refl _ w).alloc (Nat.le_refl _) _⟩

set_option maxHeartbeats 400000 in
theorem qresult_any (w : World) (fu : Int) :
    Calls Tryz.prog 52 #[.bool (!decide (fu = 0))] w fun e w' => e = .returned (.int .i64 (stepE fu)) ∧ w' = w := by
  by_cases h : fu = 0
  · have e1 : stepE fu = 7 := if_pos h
    have e2 : (!decide (fu = 0)) = false := by simp [h]
    rw [e1, e2]
    go_enter Tryz.func52, Tryz.ntmps52
    go_wp2_with fail
    go_ret
    exact ⟨rfl, rfl⟩
  · have e1 : stepE fu = 0 := if_neg h
    have e2 : (!decide (fu = 0)) = true := by simp [h]
    rw [e1, e2]
    go_enter Tryz.func52, Tryz.ntmps52
    go_wp2_with fail
    go_ret
    exact ⟨rfl, rfl⟩
set_option maxHeartbeats 400000 in
theorem qname_any (w : World) (s : ByteArray) (h1 : 0 < s.size) (h2 : s.size ≤ 24) :
    Calls Tryz.prog 53 #[.string s] w fun e w' => e = .returned (.bool true) ∧ w' = w := by
  go_enter Tryz.func53, Tryz.ntmps53
  go_wp2_with fail
  go_ret
  exact ⟨by simp; try omega, rfl⟩
set_option maxHeartbeats 400000 in
theorem qfind_none (w : World) (g : Nat) (st fu : Int) (dead : Bool) (h : QD w g (.slice none 0 0) st fu dead) (s : ByteArray) :
    Calls Tryz.prog 27 #[.pointer (some ⟨g, 0, none⟩), .string s] w fun e w' => e = .returned (.int .i64 (-1)) ∧ w' = w := by
  obtain ⟨c0, -, -, -⟩ := h.cells
  clear h
  go_enter Tryz.func27, Tryz.ntmps27
  go_wp2_with fail
  go_loopg [5] 1 (fun k s5 wr => s5 = .int .i64 0 ∧ wr = w)
  case atStart => exact ⟨rfl, rfl⟩
  case round =>
    obtain ⟨rfl, rfl⟩ := hrel
    go_wp2_with fail
    go_ret
    exact ⟨rfl, rfl⟩
set_option maxHeartbeats 400000 in
theorem qfind_one (w : World) (g h o cap : Nat) (st fu : Int) (dead : Bool) (hd : QD w g (.slice (some ⟨h, o, none⟩) 1 cap) st fu dead) (hcap : 1 ≤ cap) (s : ByteArray) (x : List UInt8) (l : Nat) (hf : QFile w h o s x l) :
    Calls Tryz.prog 27 #[.pointer (some ⟨g, 0, none⟩), .string s] w fun e w' => e = .returned (.int .i64 0) ∧ w' = w := by
  obtain ⟨c0, -, -, -⟩ := hd.cells
  obtain ⟨cur, bv, h1, h2, h3, h4, h5⟩ := hf
  have d0 : w.cell? ⟨h, o, none⟩ = some (.string s) := by rw [cell_at h1]; exact h2
  clear hd h1 h2 h3 h4 h5
  go_enter Tryz.func27, Tryz.ntmps27
  go_wp2_with fail
  go_loopg [5] 1 (fun k s5 wr => s5 = .int .i64 0 ∧ wr = w)
  case atStart => exact ⟨rfl, rfl⟩
  case round =>
    obtain ⟨rfl, rfl⟩ := hrel
    go_wp2_with fail
    go_ret
    exact ⟨rfl, rfl⟩
set_option maxHeartbeats 400000 in
theorem qstep_any (w : World) (g : Nat) (L : Value) (st fu : Int) (h : QD w g L st fu false) (h1 : 0 ≤ st) (h2 : st ≤ 1099511627776) (h4 : fu ≤ 9223372036854775807) :
    Calls Tryz.prog 50 #[.pointer (some ⟨g, 0, none⟩)] w fun e w' => e = .returned (.bool (!decide (fu = 0))) ∧ QD w' g L (st + 1) (stepF fu) (decide (fu = 0)) ∧ Fr (fun k => k = g) w w' := by
  obtain ⟨c0, c1, c2, c3⟩ := h.cells
  have f1 := free_at h 1
  have f2 := free_at h 2
  have f3 := free_at h 3
  have HZ := Lib.hid h
  clear h
  by_cases h0 : fu = 0
  · subst h0
    have e2 : (!decide ((0 : Int) = 0)) = false := rfl
    rw [e2]
    go_enter Tryz.func50, Tryz.ntmps50
    go_wp2_with fail
    go_ret
    have d1 := HZ.out.set1 (st + 1)
    have d2 := d1.1.set3 true
    exact ⟨rfl, d2.1, d1.2.trans d2.2 (fun _ _ h => h)⟩
  · have e2 : (!decide (fu = 0)) = true := by simp [h0]
    have e3 : decide (fu = 0) = false := by simp [h0]
    rw [e2, e3]
    have d1 := HZ.out.set1 (st + 1)
    by_cases hp : 0 < fu
    · have e1 : stepF fu = fu - 1 := if_pos hp
      rw [e1]
      have d2 := d1.1.set2 (fu - 1)
      have D := Lib.hid (And.intro d2.1 (d1.2.trans d2.2 (fun _ _ h => h)))
      clear d1 d2
      go_enter Tryz.func50, Tryz.ntmps50
      go_wp2_with fail
      go_ret
      exact ⟨rfl, D.out.1, D.out.2⟩
    · have e1 : stepF fu = fu := if_neg hp
      rw [e1]
      have D := Lib.hid d1
      clear d1
      go_enter Tryz.func50, Tryz.ntmps50
      go_wp2_with fail
      go_ret
      exact ⟨rfl, D.out.1, D.out.2⟩
set_option maxHeartbeats 400000 in
theorem qarm_any (w : World) (g : Nat) (L : Value) (st fu : Int) (h : QD w g L st fu false) (n : Int) :
    Calls Tryz.prog 11 #[.pointer (some ⟨g, 0, none⟩), .int .i64 n] w fun e w' => e = .returned (.tuple #[]) ∧ QD w' g L st (max n (-1)) false ∧ Fr (fun k => k = g) w w' := by
  obtain ⟨c0, c1, c2, c3⟩ := h.cells
  have f2 := free_at h 2
  have HZ := Lib.hid h
  clear h
  go_enter Tryz.func11, Tryz.ntmps11
  go_wp2_with fail
  go_end0
  have d := HZ.out.set2 (max n (-1))
  exact ⟨rfl, d.1, d.2⟩

theorem QFile.cells {w : World} {h o : Nat} {s : ByteArray} {x : List UInt8} {l : Nat} (hq : QFile w h o s x l) :
    ∃ bv, w.cell? ⟨h, o, none⟩ = some (.string s) ∧ w.cell? ⟨h, o + 1, none⟩ = some bv ∧ w.cell? ⟨h, o + 2, none⟩ = some (.int .i64 l) ∧ w.frozen? ⟨h, o + 1, none⟩ = false ∧ w.frozen? ⟨h, o + 2, none⟩ = false ∧ OB w bv x := by
  obtain ⟨cur, bv, h1, h2, h3, h4, h5⟩ := hq
  exact ⟨bv, (cell_at h1 _).trans h2, (cell_at h1 _).trans h3, (cell_at h1 _).trans h4, free_at h1 _, free_at h1 _, h5⟩
theorem QFile.putB {w : World} {h o : Nat} {s : ByteArray} {x y : List UInt8} {l : Nat} (hq : QFile w h o s x l) {v : Value} (hv : OB w v y) :
    QFile (w.setCell ⟨h, o + 1, none⟩ v) h o s y l ∧ Fr (fun k => k = h) w (w.setCell ⟨h, o + 1, none⟩ v) := by
  obtain ⟨cur, bv, h1, h2, h3, h4, h5⟩ := hq
  have F : Fr (fun k => k = h) w (w.setCell ⟨h, o + 1, none⟩ v) := Fr.setCell (Fr.refl _ _) _ _ (fun _ => rfl)
  have hlt := (Array.getElem?_eq_some_iff.1 h3).1
  refine ⟨⟨_, v, heap_setCell_at h1 (o + 1) v, ?_, ?_, ?_, hv.fr F (by rintro g rfl; exact Tag.not h1 (by decide))⟩, F⟩
  · rw [Array.getElem?_setIfInBounds_ne (by omega)]; exact h2
  · rw [Array.getElem?_setIfInBounds_self_of_lt hlt]
  · rw [Array.getElem?_setIfInBounds_ne (by omega)]; exact h4
theorem QFile.putL {w : World} {h o : Nat} {s : ByteArray} {x : List UInt8} {l : Nat} (hq : QFile w h o s x l) (n : Nat) :
    QFile (w.setCell ⟨h, o + 2, none⟩ (.int .i64 n)) h o s x n ∧ Fr (fun k => k = h) w (w.setCell ⟨h, o + 2, none⟩ (.int .i64 n)) := by
  obtain ⟨cur, bv, h1, h2, h3, h4, h5⟩ := hq
  have F : Fr (fun k => k = h) w (w.setCell ⟨h, o + 2, none⟩ (.int .i64 n)) := Fr.setCell (Fr.refl _ _) _ _ (fun _ => rfl)
  have hlt := (Array.getElem?_eq_some_iff.1 h4).1
  refine ⟨⟨_, bv, heap_setCell_at h1 (o + 2) _, ?_, ?_, ?_, h5.fr F (by rintro g rfl; exact Tag.not h1 (by decide))⟩, F⟩
  · rw [Array.getElem?_setIfInBounds_ne (by omega)]; exact h2
  · rw [Array.getElem?_setIfInBounds_ne (by omega)]; exact h3
  · rw [Array.getElem?_setIfInBounds_self_of_lt hlt]

set_option maxRecDepth 100000 in
set_option maxHeartbeats 2000000 in
theorem qapp1 (w : World) (g h o cap : Nat) (st fu : Int) (hd : QD w g (.slice (some ⟨h, o, none⟩) 1 cap) st fu false) (hcap : 1 ≤ cap) (s : ByteArray) (hs1 : 0 < s.size) (hs2 : s.size ≤ 24) (x : List UInt8) (l : Nat) (hf : QFile w h o s x l)
    (v : Value) (cs : List UInt8) (hv : OB w v cs) (hl : x.length + cs.length ≤ 1099511627776) (h1 : 0 ≤ st) (h2 : st ≤ 1000000) (h4 : fu ≤ 9223372036854775807) :
    Calls Tryz.prog 29 #[.pointer (some ⟨g, 0, none⟩), .string s, v] w fun e w' => e = .returned (.int .i64 (stepE fu)) ∧ QD w' g (.slice (some ⟨h, o, none⟩) 1 cap) (st + 1) (stepF fu) (decide (fu = 0)) ∧ QFile w' h o s (x ++ cs) l ∧ Fr (fun k => k = g ∨ k = h) w w' := by
  obtain ⟨i, hi, hz0, hz1, hz2⟩ := info_parts infoU8
  obtain ⟨va, vcap, rfl, hvc, hvm⟩ := hv.1.shape
  obtain ⟨c0, -, -, c3⟩ := hd.cells
  have HD := Lib.hid hd
  have HF := Lib.hid hf
  have HV := Lib.hid hv
  have Hi := Lib.hid hi
  have Hz0 := Lib.hid hz0
  have Hz1 := Lib.hid hz1
  have Hz2 := Lib.hid hz2
  clear hd hf hv hi hz0 hz1 hz2
  go_enter Tryz.func29, Tryz.ntmps29
  go_wp2_with fail
  refine (qname_any w s hs1 hs2).mono ?_
  rintro e w ⟨rfl, rfl⟩
  go_wp2_with fail
  refine (qstep_any w g _ st fu HD.out h1 (by omega) h4).mono ?_
  rintro e w1 ⟨rfl, hd1, f1⟩
  have hgh : ¬ h = g := tag_ne HF.out.tag HD.out.tag (by decide)
  have ntg : ∀ k, k = g → ¬ Tag w k 5 := by rintro k rfl; exact Tag.not HD.out (by decide)
  have hf1 := HF.out.fr f1 hgh ntg
  have HV1 := Lib.hid (HV.out.fr f1 ntg)
  have HD1 := Lib.hid hd1
  have HF1 := Lib.hid hf1
  have F1 := Lib.hid f1
  clear hd1 hf1 f1 c0 c3 ntg
  go_wp2_with fail
  refine (qfind_one w1 g h o cap _ _ _ HD1.out hcap s x l HF1.out).mono ?_
  rintro e w1 ⟨rfl, rfl⟩
  go_wp2_with fail
  refine (qfind_one w1 g h o cap _ _ _ HD1.out hcap s x l HF1.out).mono ?_
  rintro e w1 ⟨rfl, rfl⟩
  obtain ⟨c0, -, -, -⟩ := HD1.out.cells
  obtain ⟨bv, d0, d1, d2, e1, e2, hob⟩ := HF1.out.cells
  obtain ⟨ba, bcap, rfl, hbc, hbm⟩ := hob.1.shape
  have HOB := Lib.hid hob
  clear hob d0 d2 e2
  go_upto_region 9 with fail
  have hgl := lt_of_obj HD1.out
  have hhl := HF1.out.tag.lt
  go_region_law ((first | (refine step_append_owns_h (by rfl) _ _ 52 rfl w1.heap.size 5 i (.int .u8 0) 1 1 Tryz.underlying52 Hi.out Hz0.out Hz1.out Hz2.out rfl (.slice a5 x.length k5) x.length (x.map M.u8) rfl HO5.out (.slice va cs.length vcap) cs.length (cs.map M.u8) rfl HV5.out (u8_one _) (x.length + cs.length) rfl (x.map M.u8 ++ cs.map M.u8) rfl (by omega) (by omega) G5.out.size ?_; intro q kq w6 t1 t2 t3 t4 t5; have F6 : Fr (fun _ => False) w1 w6 := (Fr.of_below (S := fun _ => False) G5.out).trans (Fr.of_grown (S := fun k => w1.heap.size ≤ k) t4 (fun k hk _ => (HO5.out.base_le k hk).1)) (fun k hk hh => absurd hk (by omega)); have y6 := F6.cell_some d1 id; have z6 := F6.cell_some c0 id; have n6 := (F6.frozen (o := o + 1) hhl id).trans e1; have T1 := Lib.hid t1; have T6 := Lib.hid F6; clear t1 t4 t5 F6) | (go_simp; go_at_call 35; refine (copy_any _ _ x (Reads.below HOB.out.1 (below_drewN (Below.refl _ w1) 1)) (by omega)).mono ?_; rintro e w5 ⟨v5, rfl, ho5, hb5⟩; obtain ⟨a5, k5, rfl, hk51, hk52⟩ := ho5.reads.shape; have g5 : Below w1.heap.size w1 w5 := (below_drewN (Below.refl _ w1) 1).trans hb5; have HO5 := Lib.hid ho5; have HV5 := Lib.hid (Reads.below HV1.out.1 g5); have G5 := Lib.hid g5; have z5 := ((bcell g5).1 g 0 hgl).trans c0; clear ho5 hb5 g5)))
  all_goals
    have hq6 := HF1.out.fr T6.out id (fun _ h => h.elim)
    have hd6 := HD1.out.fr T6.out id
    have hp := hq6.putB (v := .slice q (x.length + cs.length) kq) (y := x ++ cs) (OB.of_owns (by have := T1.out; rw [← List.map_append] at this; exact this))
    have hd7 := hd6.fr hp.2 (fun e => hgh e.symm)
    have f7 : Fr (fun k => k = g ∨ k = h) w (w6.setCell ⟨h, o + 1, none⟩ (.slice q (x.length + cs.length) kq)) :=
      ((F1.out.mono (S' := fun k => k = g ∨ k = h) (fun _ _ h => .inl h)).trans T6.out (fun _ _ h => h.elim)).trans hp.2 (fun _ _ h => .inr h)
    have HP := Lib.hid hp.1
    have HD7 := Lib.hid hd7
    have HF7 := Lib.hid f7
    clear hq6 hd6 hp hd7 f7
    generalize w6.setCell ⟨h, o + 1, none⟩ (.slice q (x.length + cs.length) kq) = w7 at *
    go_wp2_with fail
    refine (qresult_any w7 fu).mono ?_
    rintro e w8 ⟨rfl, rfl⟩
    go_wp2_with fail
    go_ret
    exact ⟨rfl, HD7.out, HP.out, HF7.out⟩
end Go.Proofs.YtpnlcogbahjnoaaGreat.F
