/- codec's Reader: bytes, the closures, give. Conditions stand at each theorem. -/
import Derived.Test.YtpnlcogbahjnoaaGreatNum
import Derived.Recover
namespace Go.Proofs.YtpnlcogbahjnoaaGreat.F
open Go.RowKit Go.Proofs.YtpnlcogbahjnoaaGreat.M
set_option linter.unusedVariables false

def decB (most : Nat) (bs : List UInt8) : Except Int (List UInt8 × List UInt8) :=
  match dec bs with
  | .error c => .error c
  | .ok (n, l) => if n ≤ most then (if n ≤ l.length then .ok (l.take n, l.drop n) else .error 2) else .error 3
def BytesOut (w' : World) (p : Nat) (e : Ending) : Except Int (List UInt8 × List UInt8) → Prop
  | .ok (r, l) => ∃ v, e = .returned v ∧ OB w' v r ∧ RdAt w' p l 0
  | .error c => e = .panicked (Pan c) ∧ ∃ l, RdAt w' p l 0
theorem bytes_out {w' : World} {p most : Nat} {e : Ending} {bs : List UInt8} {X : Except Int (List UInt8 × List UInt8)} (h : decB most bs = X) (h' : BytesOut w' p e X) : BytesOut w' p e (decB most bs) := h ▸ h'

set_option maxRecDepth 100000 in
set_option maxHeartbeats 1000000 in
theorem rbytes_any (w : World) (p : Nat) (bs : List UInt8) (h : RdAt w p bs 0) (most : Nat) (hm : most ≤ 1099511627776) :
    Calls Tryz.prog 98 #[.pointer (some ⟨p, 0, none⟩), .int .i64 most] w fun e w' => BytesOut w' p e (decB most bs) ∧ Fr (fun k => k = p) w w' := by
  have HR := Lib.hid h
  clear h
  cases hd : dec bs with
  | error c =>
    have hD : Hid (decB most bs = .error c) := Lib.hid (by rw [decB, hd])
    go_enter Tryz.func98, Tryz.ntmps98
    go_wp2_with fail
    refine (num_any w p bs HR.out).mono ?_
    rintro e w1 ⟨hn, hf1⟩
    rw [hd] at hn
    obtain ⟨rfl, l, hr⟩ := hn
    go_wp2_with fail
    exact ⟨rfl, bytes_out hD.out ⟨rfl, l, hr⟩, hf1⟩
  | ok x =>
    obtain ⟨n, l⟩ := x
    have hn40 : n ≤ 1099511627776 ∨ True := .inr trivial
    by_cases hnm : n ≤ most
    · by_cases hnl : n ≤ l.length
      · have hD : Hid (decB most bs = .ok (l.take n, l.drop n)) := Lib.hid (by rw [decB, hd]; simp only; rw [if_pos hnm, if_pos hnl])
        go_enter Tryz.func98, Tryz.ntmps98
        go_wp2_with fail
        refine (num_any w p bs HR.out).mono ?_
        rintro e w1 ⟨hn, hf1⟩
        rw [hd] at hn
        obtain ⟨rfl, hr⟩ := hn
        have HR1 := Lib.hid hr
        have HF1 := Lib.hid hf1
        clear hr hf1
        go_wp2_with fail
        refine (must_yes w1 _ (by first | rfl | exact decide_eq_true (by omega)) 3).mono ?_
        rintro e w' ⟨rfl, rfl⟩
        go_wp2_with fail
        refine (take_any w' p l HR1.out n hnl).mono ?_
        rintro e w2 ⟨v2, rfl, h2, h3, h4⟩
        obtain ⟨a2, k2, hv2, -, -⟩ := h2.1.shape
        have hle : (l.take n).length = n := by simp; omega
        rw [hle] at hv2
        subst hv2
        clear hle
        have H2 := Lib.hid h2
        have H3 := Lib.hid h3
        have H4 := Lib.hid h4
        clear h2 h3 h4
        go_wp2_with fail
        go_ret
        exact ⟨bytes_out hD.out ⟨_, rfl, H2.out, H3.out⟩, HF1.out.trans H4.out (fun _ _ h => h)⟩
      · have hD : Hid (decB most bs = .error 2) := Lib.hid (by rw [decB, hd]; simp only; rw [if_pos hnm, if_neg hnl])
        go_enter Tryz.func98, Tryz.ntmps98
        go_wp2_with fail
        refine (num_any w p bs HR.out).mono ?_
        rintro e w1 ⟨hn, hf1⟩
        rw [hd] at hn
        obtain ⟨rfl, hr⟩ := hn
        have HR1 := Lib.hid hr
        have HF1 := Lib.hid hf1
        clear hr hf1
        go_wp2_with fail
        refine (must_yes w1 _ (by first | rfl | exact decide_eq_true (by omega)) 3).mono ?_
        rintro e w' ⟨rfl, rfl⟩
        go_wp2_with fail
        refine (take_no w' p l HR1.out n (by omega)).mono ?_
        rintro e w2 ⟨rfl, rfl⟩
        go_wp2_with fail
        exact ⟨rfl, bytes_out hD.out ⟨rfl, _, HR1.out⟩, HF1.out⟩
    · have hD : Hid (decB most bs = .error 3) := Lib.hid (by rw [decB, hd]; simp only; rw [if_neg hnm])
      go_enter Tryz.func98, Tryz.ntmps98
      go_wp2_with fail
      refine (num_any w p bs HR.out).mono ?_
      rintro e w1 ⟨hn, hf1⟩
      rw [hd] at hn
      obtain ⟨rfl, hr⟩ := hn
      have HR1 := Lib.hid hr
      have HF1 := Lib.hid hf1
      clear hr hf1
      go_wp2_with fail
      refine (must_no w1 _ (by first | rfl | exact decide_eq_false (by omega)) 3).mono ?_
      rintro e w' ⟨rfl, rfl⟩
      go_wp2_with fail
      exact ⟨rfl, bytes_out hD.out ⟨rfl, _, HR1.out⟩, HF1.out⟩

/-- block c is a box of type t with the value v -/
def BoxT (w : World) (c : Nat) (t : TypeId) (v : Value) : Prop := w.heap[c]? = some (.cells #[v] t (0, 0))
theorem BoxT.cell {w : World} {c : Nat} {t : TypeId} {v : Value} (h : BoxT w c t v) : w.cell? ⟨c, 0, none⟩ = some v := by
  simpa using cell_at h 0
theorem BoxT.fr {S : Nat → Prop} {w w' : World} {c : Nat} {t : TypeId} {v : Value} (h : BoxT w c t v) (hf : Fr S w w') (hs : ¬ S c) : BoxT w' c t v := hf.obj h hs
theorem BoxT.below {w w' : World} {c : Nat} {t : TypeId} {v : Value} (h : BoxT w c t v) (hb : Below w.heap.size w w') : BoxT w' c t v := (hb.block c (lt_of_obj h)).trans h
theorem BoxT.ne {w : World} {c p : Nat} {t : TypeId} {v : Value} (h : BoxT w c t v) {bs : List UInt8} {f : Int} (hr : RdAt w p bs f) : c ≠ p := by
  rintro rfl
  obtain ⟨sv, h1, _⟩ := hr
  rw [BoxT, h1] at h
  simp at h
theorem BoxT.set {w : World} {c : Nat} {t : TypeId} {v : Value} (h : BoxT w c t v) (u : Value) : BoxT (w.setCell ⟨c, 0, none⟩ u) c t u := by
  have := heap_setCell_at h 0 u
  simpa [BoxT] using this

set_option maxRecDepth 100000 in
set_option maxHeartbeats 400000 in
theorem numclo_ok (w : World) (p : Nat) (bs : List UInt8) (h : RdAt w p bs 0) (c1 c2 : Nat) (x : Int) (h1 : BoxT w c1 122 (.pointer (some ⟨p, 0, none⟩))) (h2 : BoxT w c2 3 (.int .i64 x)) (n : Nat) (l : List UInt8) (hd : dec bs = .ok (n, l)) :
    Calls Tryz.prog 95 #[.pointer (some ⟨c1, 0, none⟩), .pointer (some ⟨c2, 0, none⟩)] w fun e w' => e = .returned (.tuple #[]) ∧ RdAt w' p l 0 ∧ BoxT w' c2 3 (.int .i64 n) ∧ Fr (fun k => k = p ∨ k = c2) w w' := by
  have q1 := h1.cell
  have hn := h2.ne h
  have H2 := Lib.hid h2
  have HR := Lib.hid h
  clear h h1 h2
  go_enter Tryz.func95, Tryz.ntmps95
  go_wp2_with fail
  refine (num_any w p bs HR.out).mono ?_
  rintro e w1 ⟨ho, hf1⟩
  rw [hd] at ho
  obtain ⟨rfl, hr⟩ := ho
  have b2 := H2.out.fr hf1 hn
  have q2 := b2.cell
  have f2 := free_at b2 0
  have B2 := Lib.hid b2
  have HR1 := Lib.hid hr
  have HF1 := Lib.hid hf1
  clear b2 hr hf1 q1
  go_wp2_with fail
  go_end0
  have F : Fr (fun k => k = c2) w1 (w1.setCell ⟨c2, 0, none⟩ (.int .i64 n)) := Fr.setCell (Fr.refl _ _) _ _ (fun _ => rfl)
  refine ⟨rfl, HR1.out.fr F (fun e => hn e.symm) (by rintro g rfl; exact Tag.not B2.out (by decide)), B2.out.set _, ?_⟩
  exact (HF1.out.mono (S' := fun k => k = p ∨ k = c2) (fun _ _ h => .inl h)).trans F (fun _ _ h => .inr h)
set_option maxRecDepth 100000 in
set_option maxHeartbeats 400000 in
theorem numclo_no (w : World) (p : Nat) (bs : List UInt8) (h : RdAt w p bs 0) (c1 c2 : Nat) (h1 : BoxT w c1 122 (.pointer (some ⟨p, 0, none⟩))) (c : Int) (hd : dec bs = .error c) :
    Calls Tryz.prog 95 #[.pointer (some ⟨c1, 0, none⟩), .pointer (some ⟨c2, 0, none⟩)] w fun e w' => e = .panicked (Pan c) ∧ (∃ l, RdAt w' p l 0) ∧ Fr (fun k => k = p) w w' := by
  have q1 := h1.cell
  have HR := Lib.hid h
  clear h h1
  go_enter Tryz.func95, Tryz.ntmps95
  go_wp2_with fail
  refine (num_any w p bs HR.out).mono ?_
  rintro e w1 ⟨ho, hf1⟩
  rw [hd] at ho
  obtain ⟨rfl, hr⟩ := ho
  go_wp2_with fail
  exact ⟨rfl, rfl, hr, hf1⟩

set_option maxRecDepth 100000 in
set_option maxHeartbeats 1000000 in
theorem bytesclo_ok (w : World) (p : Nat) (bs : List UInt8) (h : RdAt w p bs 0) (c1 c2 c3 : Nat) (x : Value) (most : Nat) (hm : most ≤ 1099511627776) (h1 : BoxT w c1 122 (.pointer (some ⟨p, 0, none⟩))) (h2 : BoxT w c2 3 (.int .i64 most)) (h3 : BoxT w c3 52 x) (r l : List UInt8) (hl : r.length ≤ 1099511627776) (hd : decB most bs = .ok (r, l)) :
    Calls Tryz.prog 97 #[.pointer (some ⟨c1, 0, none⟩), .pointer (some ⟨c2, 0, none⟩), .pointer (some ⟨c3, 0, none⟩)] w fun e w' => e = .returned (.tuple #[]) ∧ RdAt w' p l 0 ∧ (∃ a k, BoxT w' c3 52 (.slice a r.length k) ∧ OB w' (.slice a r.length k) r) ∧ Fr (fun k => k = p ∨ k = c3) w w' := by
  obtain ⟨i, hi, hz0, hz1, hz2⟩ := info_parts infoU8
  have Hi := Lib.hid hi
  have Hz0 := Lib.hid hz0
  have Hz1 := Lib.hid hz1
  have Hz2 := Lib.hid hz2
  have q1 := h1.cell
  have q2 := h2.cell
  have hn := h3.ne h
  have H3 := Lib.hid h3
  have HR := Lib.hid h
  clear h h1 h2 h3 hi hz0 hz1 hz2
  go_enter Tryz.func97, Tryz.ntmps97
  go_wp2_with fail
  refine (rbytes_any w p bs HR.out most hm).mono ?_
  rintro e w1 ⟨ho, hf1⟩
  rw [hd] at ho
  obtain ⟨v1, rfl, ho1, hr⟩ := ho
  obtain ⟨a1, k1, rfl, hk1, hk2⟩ := ho1.1.shape
  have b3 := H3.out.fr hf1 hn
  have B3 := Lib.hid b3
  have HR1 := Lib.hid hr
  have HF1 := Lib.hid hf1
  have HO1 := Lib.hid ho1
  clear b3 hr hf1 q1 q2 ho1
  go_wp2_with (at_builtin; refine wpList_append_owns rfl _ _ 52 rfl w1.heap.size 5 i (.int .u8 0) 1 1 Tryz.underlying52 Hi.out Hz0.out Hz1.out Hz2.out rfl (.slice none 0 0) 0 [] rfl (Owns.nil _ _ _ _) (.slice a1 r.length k1) r.length (r.map M.u8) rfl HO1.out.1 (u8_one _) r.length (Nat.zero_add _) (r.map M.u8) rfl (by omega) (by omega) (Nat.le_refl _) ?_; intro q k w2 y1 y2 y3 y4 y5; have B4 := Lib.hid (B3.out.below (Fr.below (Fr.of_grown (S := fun x => w1.heap.size ≤ x) y4 (fun x hx _ => by simp [Value.ownBlock] at hx)) (Nat.le_refl _) (fun x hx => hx))); have q3 := B4.out.cell; have f3 := free_at B4.out 0; have Y1 := Lib.hid y1; have Y4 := Lib.hid y4; clear y1 y4 y5)
  go_end0
  have W4 : Below w1.heap.size w1 w2 := Fr.below (Fr.of_grown (S := fun x => w1.heap.size ≤ x) Y4.out (fun x hx _ => by simp [Value.ownBlock] at hx)) (Nat.le_refl _) (fun x hx => hx)
  have F : Fr (fun k => k = c3) w2 (w2.setCell ⟨c3, 0, none⟩ (.slice q r.length k)) := Fr.setCell (Fr.refl _ _) _ _ (fun _ => rfl)
  refine ⟨rfl, (HR1.out.below W4).fr F (fun e => hn e.symm) (by rintro g rfl; exact Tag.not B4.out (by decide)), ⟨_, _, B4.out.set _, (OB.of_owns Y1.out).fr F (by rintro g rfl; exact Tag.not B4.out (by decide))⟩, ?_⟩
  exact ((HF1.out.mono (S' := fun k => k = p ∨ k = c3) (fun _ _ h => .inl h)).trans (Fr.of_below (S := fun _ => False) W4) (fun _ _ h => h.elim)).trans F (fun _ _ h => .inr h)
set_option maxRecDepth 100000 in
set_option maxHeartbeats 400000 in
theorem bytesclo_no (w : World) (p : Nat) (bs : List UInt8) (h : RdAt w p bs 0) (c1 c2 c3 : Nat) (most : Nat) (hm : most ≤ 1099511627776) (h1 : BoxT w c1 122 (.pointer (some ⟨p, 0, none⟩))) (h2 : BoxT w c2 3 (.int .i64 most)) (c : Int) (hd : decB most bs = .error c) :
    Calls Tryz.prog 97 #[.pointer (some ⟨c1, 0, none⟩), .pointer (some ⟨c2, 0, none⟩), .pointer (some ⟨c3, 0, none⟩)] w fun e w' => e = .panicked (Pan c) ∧ (∃ l, RdAt w' p l 0) ∧ Fr (fun k => k = p) w w' := by
  have q1 := h1.cell
  have q2 := h2.cell
  have HR := Lib.hid h
  clear h h1 h2
  go_enter Tryz.func97, Tryz.ntmps97
  go_wp2_with fail
  refine (rbytes_any w p bs HR.out most hm).mono ?_
  rintro e w1 ⟨ho, hf1⟩
  rw [hd] at ho
  obtain ⟨rfl, hr⟩ := ho
  go_wp2_with fail
  exact ⟨rfl, rfl, hr, hf1⟩

set_option maxRecDepth 100000 in
set_option maxHeartbeats 400000 in
theorem give_any (w : World) (p : Nat) (bs : List UInt8) (h : RdAt w p bs 0) (c : Int) :
    Calls Tryz.prog 114 #[.pointer (some ⟨p, 0, none⟩), .int .i64 c] w fun e w' => e = .returned (.tuple #[]) ∧ RdAt w' p [] c ∧ Fr (fun k => k = p) w w' := by
  obtain ⟨sv, z, ho⟩ := h
  obtain ⟨a, cap, rfl, -, -⟩ := ho.1.shape
  have c0 := cell_at z 0
  have c1 := cell_at z 1
  have c2 := cell_at z 2
  have f1 := free_at z 1
  have f2 := free_at z 2
  simp at c0 c1 c2
  have HZ := Lib.hid z
  clear z ho
  go_enter Tryz.func114, Tryz.ntmps114
  go_wp2_with fail
  go_end0
  have z2 := heap_setCell_at HZ.out 2 (.int .i64 c)
  have z3 := heap_setCell_at z2 1 (.slice none 0 0)
  refine ⟨rfl, ⟨_, by simpa using z3, OB.nil _⟩, ?_⟩
  exact Fr.setCell (S := fun k => k = p) (Fr.setCell (S := fun k => k = p) (Fr.refl _ _) _ _ (fun _ => rfl)) _ _ (fun _ => rfl)
end Go.Proofs.YtpnlcogbahjnoaaGreat.F
