/- The reference's Log: Create, Append, Open. Conditions stand at each theorem. -/
import Derived.Test.YtpnlcogbahjnoaaGreatQDisk2
namespace Go.Proofs.YtpnlcogbahjnoaaGreat.F
open Go.RowKit Go.Proofs.YtpnlcogbahjnoaaGreat.M
set_option linter.unusedVariables false

/-- block p is a log of the reference at disk g whose file is s; its records are lv's -/
def QLogV (w : World) (base p g : Nat) (s : ByteArray) (lv : Value) (rs : List (List UInt8)) : Prop :=
  base ≤ p ∧ w.heap[p]? = some (.cells #[.pointer (some ⟨g, 0, none⟩), .string s, lv] 44 (0, 0)) ∧ ORecs w base lv rs
theorem QLogV.base_le {w : World} {base p g h : Nat} {s : ByteArray} {lv : Value} {rs : List (List UInt8)} (hl : QLogV w base p g s lv rs) (hg : base ≤ g) (hh : base ≤ h) : ∀ k, LSv g h p lv k → base ≤ k := by
  rintro k ((rfl | rfl) | rfl | hk)
  · exact hg
  · exact hh
  · exact hl.1
  · exact (hl.2.2.tag hk).2
theorem qd_apart {w : World} {g h o : Nat} {L : Value} {st fu : Int} {dead : Bool} {s : ByteArray} {x : List UInt8} {l : Nat} (hd : QD w g L st fu dead) (hf : QFile w h o s x l) (t : TypeId) (h1 : t ≠ 48) (h2 : t ≠ 76) : ∀ k, (k = g ∨ k = h) → ¬ Tag w k t := by
  rintro k (rfl | rfl)
  · exact fun ht => tag_ne ht hd.tag h1 rfl
  · exact fun ht => tag_ne ht hf.tag h2 rfl
theorem QD.below {w w' : World} {g : Nat} {L : Value} {st fu : Int} {dead : Bool} (h : QD w g L st fu dead) (hb : Below w.heap.size w w') : QD w' g L st fu dead := h.fr (Fr.of_below (S := fun _ => False) hb) id

set_option maxRecDepth 100000 in
set_option maxHeartbeats 1000000 in
theorem qcreate_any (w : World) (g : Nat) (hd : QD w g (.slice none 0 0) 0 (-1) false) (s : ByteArray) (hs1 : 0 < s.size) (hs2 : s.size ≤ 24) :
    Calls Tryz.prog 9 #[.pointer (some ⟨g, 0, none⟩), .string s] w fun e w' => ∃ p h o cap, e = .returned (.tuple #[.pointer (some ⟨p, 0, none⟩), .int .i64 0]) ∧ w.heap.size ≤ h ∧ 1 ≤ cap ∧ QLogV w' w.heap.size p g s (.slice none 0 0) [] ∧ QD w' g (.slice (some ⟨h, o, none⟩) 1 cap) 2 (-1) false ∧ QFile w' h o s [] 0 ∧ Fr (fun k => k = g) w w' := by
  have HD := Lib.hid hd
  clear hd
  go_enter Tryz.func9, Tryz.ntmps9
  go_wp2_with fail
  refine (qfind_none w g _ _ _ HD.out s).mono ?_
  rintro e w ⟨rfl, rfl⟩
  go_wp2_with fail
  refine (qapp0 w g 0 HD.out s hs1 hs2 (by omega) (by omega)).mono ?_
  rintro e w1 ⟨rfl, h, o, cap, hh, hcap, hd1, hf1, f1⟩
  have HD1 := Lib.hid hd1
  have HF1 := Lib.hid hf1
  have F1 := Lib.hid f1
  clear hd1 hf1 f1
  go_wp2_with fail
  refine (qsyn w1 g h o cap _ (-1) HD1.out hcap s [] 0 HF1.out (by simp) (by omega) (by omega) (by omega)).mono ?_
  rintro e w2 ⟨rfl, hd2, hf2, f2⟩
  have G2 : Hid (Fr (fun k => k = g) w w2) := Lib.hid (F1.out.trans f2 (by intro k hk hh2; rcases hh2 with hh2 | hh2 <;> omega))
  have e1 : stepE (-1) = 0 := by decide
  rw [e1]
  have HD2 := Lib.hid hd2
  have HF2 := Lib.hid hf2
  clear hd2 hf2 f2 e1
  go_wp2_with fail
  go_ret2
  have A : Below w2.heap.size w2 (w2.alloc (.cells #[.pointer (some ⟨g, 0, none⟩), .string s, .slice none 0 0] 44)) := (Below.refl _ _).alloc (Nat.le_refl _) _
  exact ⟨_, h, o, cap, rfl, hh, hcap, ⟨G2.out.size, heap_alloc_new w2 _, ORecs.nil _ _⟩, HD2.out.below A, HF2.out.below A, G2.out.trans (Fr.of_below (S := fun _ => False) A) (fun _ _ h => h.elim)⟩

set_option maxRecDepth 100000 in
set_option maxHeartbeats 1000000 in
theorem qlogapp_nil (w : World) (p : Nat) (x : Option Addr) (cap : Nat) :
    Calls Tryz.prog 13 #[.pointer (some ⟨p, 0, none⟩), .slice x 0 cap] w fun e w' => e = .returned (.int .i64 0) ∧ w' = w := by
  go_enter Tryz.func13, Tryz.ntmps13
  go_wp2_with fail
  go_ret
  exact ⟨rfl, rfl⟩

set_option maxRecDepth 100000 in
set_option maxHeartbeats 1000000 in
theorem qopen_whole (w : World) (g h o cap : Nat) (st : Int) (hd : QD w g (.slice (some ⟨h, o, none⟩) 1 cap) st (-1) false) (hcap : 1 ≤ cap) (s : ByteArray) (x : List UInt8) (l : Nat) (hf : QFile w h o s x l) (hx : x.length ≤ 1073741824) (rs : List (List UInt8)) (hsc : scan x = some (rs, x.length)) :
    Calls Tryz.prog 22 #[.pointer (some ⟨g, 0, none⟩), .string s] w fun e w' => ∃ p lv, e = .returned (.tuple #[.pointer (some ⟨p, 0, none⟩), .int .i64 0]) ∧ QLogV w' w.heap.size p g s lv rs ∧ QD w' g (.slice (some ⟨h, o, none⟩) 1 cap) st (-1) false ∧ QFile w' h o s x l ∧ Below w.heap.size w w' := by
  obtain ⟨-, -, -, c3⟩ := hd.cells
  have HD := Lib.hid hd
  have HF := Lib.hid hf
  clear hd hf
  go_enter Tryz.func22, Tryz.ntmps22
  go_wp2_with fail
  refine (qread w g h o cap _ _ _ HD.out hcap s x l HF.out (by omega)).mono ?_
  rintro e w1 ⟨v1, rfl, h1', hb1⟩
  obtain ⟨a1, k1, rfl, -, -⟩ := h1'.reads.shape
  have HV1 : Hid (Bytes w1 (.slice a1 x.length k1) x) := Lib.hid (Bytes.of_owns h1')
  have HD1 := Lib.hid (HD.out.below hb1)
  have HF1 := Lib.hid (HF.out.below hb1)
  have HB1 := Lib.hid hb1
  clear h1' hb1 c3
  go_wp2_with fail
  refine (qscan_any w1 _ x HV1.out hx).mono ?_
  rintro e w2 ⟨hso, hb2⟩
  have HD2 := Lib.hid (HD1.out.below hb2)
  have HF2 := Lib.hid (HF1.out.below hb2)
  have HB2 := Lib.hid (HB1.out.trans (hb2.mono HB1.out.size))
  rw [hsc] at hso
  obtain ⟨v2, rfl, ho2⟩ := hso
  obtain ⟨a2, k2, rfl, -, -⟩ := ho2.shape
  have HO2 := Lib.hid ho2
  clear hb2 ho2
  go_wp2_with fail
  go_ret2
  have A : Below w2.heap.size w2 (w2.alloc (.cells #[.pointer (some ⟨g, 0, none⟩), .string s, .slice a2 rs.length k2] 44)) := (Below.refl _ _).alloc (Nat.le_refl _) _
  exact ⟨_, _, rfl, ⟨HB2.out.size, heap_alloc_new w2 _, (HO2.out.mono HB1.out.size).below A⟩, HD2.out.below A, HF2.out.below A, HB2.out.trans (A.mono HB2.out.size)⟩
set_option maxRecDepth 100000 in
set_option maxHeartbeats 1000000 in
theorem qopen_cut (w : World) (g h o cap : Nat) (st : Int) (hd : QD w g (.slice (some ⟨h, o, none⟩) 1 cap) st (-1) false) (hcap : 1 ≤ cap) (s : ByteArray) (x : List UInt8) (l : Nat) (hf : QFile w h o s x l) (hx : x.length ≤ 1073741824) (hlx : l ≤ x.length) (h1 : 0 ≤ st) (h2 : st ≤ 100000) (rs : List (List UInt8)) (n : Nat) (hsc : scan x = some (rs, n)) (hnx : n < x.length) (hnl : n ≤ l) :
    Calls Tryz.prog 22 #[.pointer (some ⟨g, 0, none⟩), .string s] w fun e w' => ∃ p lv, e = .returned (.tuple #[.pointer (some ⟨p, 0, none⟩), .int .i64 0]) ∧ QLogV w' w.heap.size p g s lv rs ∧ QD w' g (.slice (some ⟨h, o, none⟩) 1 cap) (st + 2) (-1) false ∧ QFile w' h o s (x.take n) n ∧ Fr (fun k => k = g ∨ k = h) w w' := by
  obtain ⟨-, -, -, c3⟩ := hd.cells
  have HD := Lib.hid hd
  have HF := Lib.hid hf
  clear hd hf
  go_enter Tryz.func22, Tryz.ntmps22
  go_wp2_with fail
  refine (qread w g h o cap _ _ _ HD.out hcap s x l HF.out (by omega)).mono ?_
  rintro e w1 ⟨v1, rfl, h1', hb1⟩
  obtain ⟨a1, k1, rfl, -, -⟩ := h1'.reads.shape
  have HV1 : Hid (Bytes w1 (.slice a1 x.length k1) x) := Lib.hid (Bytes.of_owns h1')
  have HD1 := Lib.hid (HD.out.below hb1)
  have HF1 := Lib.hid (HF.out.below hb1)
  have HB1 := Lib.hid hb1
  clear h1' hb1 c3
  go_wp2_with fail
  refine (qscan_any w1 _ x HV1.out hx).mono ?_
  rintro e w2 ⟨hso, hb2⟩
  have HD2 := Lib.hid (HD1.out.below hb2)
  have HF2 := Lib.hid (HF1.out.below hb2)
  have HB2 := Lib.hid (HB1.out.trans (hb2.mono HB1.out.size))
  rw [hsc] at hso
  obtain ⟨v2, rfl, ho2⟩ := hso
  obtain ⟨a2, k2, rfl, -, -⟩ := ho2.shape
  have HO2 := Lib.hid ho2
  clear hb2 ho2
  go_wp2_with fail
  refine (qtrunc w2 g h o cap st HD2.out hcap s x l HF2.out n (by omega) hnl (by omega) (by omega) h1 (by omega)).mono ?_
  rintro e w3 ⟨rfl, hd3, hf3, f3⟩
  have ap2 := fun t h1 h2 => qd_apart HD2.out HF2.out t h1 h2
  have HO3 := Lib.hid (HO2.out.fr f3 (fun g hg => ⟨ap2 _ (by decide) (by decide) g hg, ap2 _ (by decide) (by decide) g hg⟩))
  have HD3 := Lib.hid hd3
  have HF3 := Lib.hid hf3
  have G3 := Lib.hid ((Fr.of_below (S := fun k => k = g ∨ k = h) HB2.out).trans f3 (fun _ _ h => h))
  clear hd3 hf3 f3 ap2
  go_wp2_with fail
  have hxn : (x.take n).length ≤ n := by simp; omega
  refine (qsyn w3 g h o cap _ (-1) HD3.out hcap s (x.take n) n HF3.out (by omega) (by omega) (by omega) (by omega)).mono ?_
  rintro e w4 ⟨rfl, hd4, hf4, f4⟩
  have ap3 := fun t h1 h2 => qd_apart HD3.out HF3.out t h1 h2
  have HO4 := Lib.hid (HO3.out.fr f4 (fun g hg => ⟨ap3 _ (by decide) (by decide) g hg, ap3 _ (by decide) (by decide) g hg⟩))
  have G4 := Lib.hid (G3.out.trans f4 (fun _ _ h => h))
  have e1 : stepE (-1) = 0 := by decide
  have e2 : stepF (-1) = -1 := by decide
  have e3 : decide ((-1 : Int) = 0) = false := by decide
  have e4 : syncL (-1) n (x.take n).length = n := by unfold syncL; rw [if_neg (by decide)]; simp; omega
  rw [e1]
  rw [e2, e3, show st + 1 + 1 = st + 2 by omega] at hd4
  rw [e4] at hf4
  have HD4 := Lib.hid hd4
  have HF4 := Lib.hid hf4
  clear hd4 hf4 f4 ap3 e1 e2 e3 e4
  go_wp2_with fail
  go_ret2
  have A : Below w4.heap.size w4 (w4.alloc (.cells #[.pointer (some ⟨g, 0, none⟩), .string s, .slice a2 rs.length k2] 44)) := (Below.refl _ _).alloc (Nat.le_refl _) _
  exact ⟨_, _, rfl, ⟨G4.out.size, heap_alloc_new w4 _, (HO4.out.mono HB1.out.size).below A⟩, HD4.out.below A, HF4.out.below A, G4.out.trans (Fr.of_below (S := fun _ => False) A) (fun _ _ h => h.elim)⟩
end Go.Proofs.YtpnlcogbahjnoaaGreat.F
