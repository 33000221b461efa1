/- codec's Reader as its callers see it. Conditions stand at each theorem. -/
import Derived.Test.YtpnlcogbahjnoaaGreatDefer
namespace Go.Proofs.YtpnlcogbahjnoaaGreat.F
open Go.RowKit Go.Proofs.YtpnlcogbahjnoaaGreat.M
set_option linter.unusedVariables false

set_option maxRecDepth 100000 in
set_option maxHeartbeats 1000000 in
theorem newReader_any (w : World) (v : Value) (bs : List UInt8) (hv : Bytes w v bs) (hl : bs.length ≤ 1099511627776) :
    Calls Tryz.prog 82 #[v] w fun e w' => ∃ p, e = .returned (.pointer (some ⟨p, 0, none⟩)) ∧ w.heap.size ≤ p ∧ RdAt w' p bs 0 ∧ Below w.heap.size w w' := by
  obtain ⟨i, hi, hz0, hz1, hz2⟩ := info_parts infoU8
  obtain ⟨a, cap, rfl, hc, hm⟩ := hv.shape
  have HV := Lib.hid hv
  have Hi := Lib.hid hi
  have Hz0 := Lib.hid hz0
  have Hz1 := Lib.hid hz1
  have Hz2 := Lib.hid hz2
  clear hv hi hz0 hz1 hz2
  go_enter Tryz.func82, Tryz.ntmps82
  go_wp2_with (at_builtin; refine wpList_append_owns rfl _ _ 52 rfl w.heap.size 5 i (.int .u8 0) 1 1 Tryz.underlying52 Hi.out Hz0.out Hz1.out Hz2.out rfl (.slice none 0 0) 0 [] rfl (Owns.nil _ _ _ _) (.slice a bs.length cap) bs.length (bs.map M.u8) rfl HV.out (u8_one _) bs.length (Nat.zero_add _) (bs.map M.u8) rfl (by omega) (by omega) (Nat.le_refl _) ?_; intro q k w2 y1 y2 y3 y4 y5; have Y1 := Lib.hid y1; have Y4 := Lib.hid y4; clear y1 y4 y5)
  go_ret
  have W4 : Below w.heap.size w w2 := Fr.below (Fr.of_grown (S := fun x => w.heap.size ≤ x) Y4.out (fun x hx _ => by simp [Value.ownBlock] at hx)) (Nat.le_refl _) (fun x hx => hx)
  have A : Below w2.heap.size w2 (w2.alloc (.cells #[.bool true, .slice q bs.length k, .int .i64 0] 130)) := (Below.refl _ _).alloc (Nat.le_refl _) _
  exact ⟨_, rfl, W4.size, ⟨_, heap_alloc_new w2 _, (OB.of_owns Y1.out).below A⟩, W4.trans (A.mono W4.size)⟩

set_option maxHeartbeats 400000 in
theorem fail_any (w : World) (p : Nat) (bs : List UInt8) (f : Int) (h : RdAt w p bs f) :
    Calls Tryz.prog 84 #[.pointer (some ⟨p, 0, none⟩)] w fun e w' => e = .returned (.int .i64 f) ∧ w' = w := by
  obtain ⟨sv, z, ho⟩ := h
  have c0 := cell_at z 0
  have c2 := cell_at z 2
  simp at c0 c2
  clear z ho
  go_enter Tryz.func84, Tryz.ntmps84
  go_wp2_with fail
  go_ret
  exact ⟨rfl, rfl⟩
set_option maxHeartbeats 400000 in
theorem left_any (w : World) (p : Nat) (bs : List UInt8) (f : Int) (h : RdAt w p bs f) :
    Calls Tryz.prog 99 #[.pointer (some ⟨p, 0, none⟩)] w fun e w' => e = .returned (.int .i64 bs.length) ∧ w' = w := by
  obtain ⟨sv, z, ho⟩ := h
  obtain ⟨a, cap, rfl, -, -⟩ := ho.1.shape
  have c1 := cell_at z 1
  simp at c1
  clear z ho
  go_enter Tryz.func99, Tryz.ntmps99
  go_wp2_with fail
  go_ret
  exact ⟨rfl, rfl⟩
set_option maxHeartbeats 400000 in
theorem end_any (w : World) (p : Nat) (bs : List UInt8) (f : Int) (h : RdAt w p bs f) :
    Calls Tryz.prog 86 #[.pointer (some ⟨p, 0, none⟩)] w fun e w' => e = .returned (.int .i64 (if f ≠ 0 then f else if 0 < bs.length then 3 else 0)) ∧ w' = w := by
  by_cases hf : f = 0
  · subst hf
    rw [if_neg (by simp)]
    by_cases hl : 0 < bs.length
    · rw [if_pos hl]
      go_enter Tryz.func86, Tryz.ntmps86
      go_wp2_with fail
      refine (fail_any w p bs 0 h).mono ?_
      rintro e w' ⟨rfl, rfl⟩
      go_wp2_with fail
      refine (left_any w' p bs 0 h).mono ?_
      rintro e w' ⟨rfl, rfl⟩
      go_wp2_with fail
      go_ret
      exact ⟨rfl, rfl⟩
    · rw [if_neg hl]
      go_enter Tryz.func86, Tryz.ntmps86
      go_wp2_with fail
      refine (fail_any w p bs 0 h).mono ?_
      rintro e w' ⟨rfl, rfl⟩
      go_wp2_with fail
      refine (left_any w' p bs 0 h).mono ?_
      rintro e w' ⟨rfl, rfl⟩
      go_wp2_with fail
      go_ret
      exact ⟨rfl, rfl⟩
  · rw [if_pos hf]
    go_enter Tryz.func86, Tryz.ntmps86
    go_wp2_with fail
    refine (fail_any w p bs f h).mono ?_
    rintro e w' ⟨rfl, rfl⟩
    go_wp2_with fail
    go_ret
    exact ⟨rfl, rfl⟩

theorem three_boxT (w : World) (x y z : Value) (t1 t2 t3 : TypeId) : Below w.heap.size w (((w.alloc (.cells #[x] t1)).alloc (.cells #[y] t2)).alloc (.cells #[z] t3)) ∧
    BoxT (((w.alloc (.cells #[x] t1)).alloc (.cells #[y] t2)).alloc (.cells #[z] t3)) w.heap.size t1 x ∧ BoxT (((w.alloc (.cells #[x] t1)).alloc (.cells #[y] t2)).alloc (.cells #[z] t3)) (w.heap.size + 1) t2 y ∧
      BoxT (((w.alloc (.cells #[x] t1)).alloc (.cells #[y] t2)).alloc (.cells #[z] t3)) (w.heap.size + 2) t3 z := by
  refine ⟨(((Below.refl _ w).alloc (Nat.le_refl _) _).alloc (by simp) _).alloc (by simp; omega) _, ?_, ?_, ?_⟩
  · exact (Below.heap_alloc _ _ _ (by simp; omega)).trans ((Below.heap_alloc _ _ _ (by simp)).trans (heap_alloc_new w _))
  · refine (Below.heap_alloc _ _ _ (by simp)).trans ?_
    have := heap_alloc_new (w.alloc (.cells #[x] t1)) (.cells #[y] t2)
    simpa using this
  · have := heap_alloc_new ((w.alloc (.cells #[x] t1)).alloc (.cells #[y] t2)) (.cells #[z] t3)
    simpa [BoxT] using this

set_option maxRecDepth 100000 in
set_option maxHeartbeats 1000000 in
theorem rnum_ok (w : World) (p : Nat) (bs : List UInt8) (h : RdAt w p bs 0) (n : Nat) (l : List UInt8) (hd : dec bs = .ok (n, l)) :
    Calls Tryz.prog 83 #[.pointer (some ⟨p, 0, none⟩)] w fun e w' => e = .returned (.int .i64 n) ∧ RdAt w' p l 0 ∧ Fr (fun k => k = p) w w' := by
  have hmf : ∀ (fn : Fn) (first cap : Array Value) (w : World), (Instr.makeFunc fn first cap).run Tryz.prog w = .ok (.func fn first cap) w := fun _ _ _ _ => rfl
  have HR := Lib.hid h
  have hp := h.lt
  clear h
  go_enter Tryz.func83, Tryz.ntmps83
  go_upto_region 1 with fail
  obtain ⟨hA, b0, b1⟩ := two_boxT w (.pointer (some ⟨p, 0, none⟩)) (.int .i64 0) 122 3
  generalize (w.alloc (.cells #[.pointer (some ⟨p, 0, none⟩)] 122)).alloc (.cells #[.int .i64 0] 3) = w1 at *
  have HR1 := Lib.hid (HR.out.below hA)
  have q0 := b0.cell
  have B0 := Lib.hid b0
  have B1 := Lib.hid b1
  clear b0 b1
  go_wp2_with fail
  refine (readsnum_ok w1 p bs HR1.out _ _ 0 B0.out B1.out n l hd).mono ?_
  rintro e w2 ⟨rfl, h3, h4, h5⟩
  have q1 := h4.cell
  have f1 := free_at h4 0
  have H3 := Lib.hid h3
  have H4 := Lib.hid h4
  have H5 := Lib.hid h5
  clear h3 h4 h5 q0
  go_wp2_with fail
  have B3 := H4.out.set (.int .i64 n)
  have q3 := B3.cell
  have F : Fr (fun k => k = w.heap.size + 1) w2 (w2.setCell ⟨w.heap.size + 1, 0, none⟩ (.int .i64 n)) := Fr.setCell (Fr.refl _ _) _ _ (fun _ => rfl)
  have nt : ∀ g, g = w.heap.size + 1 → ¬ Tag w2 g 5 := by rintro g rfl; exact Tag.not H4.out (by decide)
  refine bodyPost_ret (v := .int .i64 n) (by simp [results, Tryz.results83, go_sem, q3]) rfl ⟨rfl, H3.out.fr F (by omega) nt, ?_⟩
  exact ((Fr.of_below (S := fun k => k = p) hA).trans H5.out (fun x hx h => by omega)).trans F (fun x hx h => by omega)
set_option maxRecDepth 100000 in
set_option maxHeartbeats 1000000 in
theorem rnum_no (w : World) (p : Nat) (bs : List UInt8) (h : RdAt w p bs 0) (c : Int) (hd : dec bs = .error c) :
    Calls Tryz.prog 83 #[.pointer (some ⟨p, 0, none⟩)] w fun e w' => e = .returned (.int .i64 0) ∧ RdAt w' p [] c ∧ Fr (fun k => k = p) w w' := by
  have hmf : ∀ (fn : Fn) (first cap : Array Value) (w : World), (Instr.makeFunc fn first cap).run Tryz.prog w = .ok (.func fn first cap) w := fun _ _ _ _ => rfl
  have HR := Lib.hid h
  have hp := h.lt
  clear h
  go_enter Tryz.func83, Tryz.ntmps83
  go_upto_region 1 with fail
  obtain ⟨hA, b0, b1⟩ := two_boxT w (.pointer (some ⟨p, 0, none⟩)) (.int .i64 0) 122 3
  generalize (w.alloc (.cells #[.pointer (some ⟨p, 0, none⟩)] 122)).alloc (.cells #[.int .i64 0] 3) = w1 at *
  have HR1 := Lib.hid (HR.out.below hA)
  have q0 := b0.cell
  have B0 := Lib.hid b0
  have B1 := Lib.hid b1
  clear b0 b1
  go_wp2_with fail
  refine (readsnum_no w1 p bs HR1.out _ _ 0 B0.out B1.out c hd).mono ?_
  rintro e w2 ⟨rfl, h3, h4, h5⟩
  have q1 := h4.cell
  have f1 := free_at h4 0
  have H3 := Lib.hid h3
  have H4 := Lib.hid h4
  have H5 := Lib.hid h5
  clear h3 h4 h5 q0
  go_wp2_with fail
  have B3 := H4.out.set (.int .i64 0)
  have q3 := B3.cell
  have F : Fr (fun k => k = w.heap.size + 1) w2 (w2.setCell ⟨w.heap.size + 1, 0, none⟩ (.int .i64 0)) := Fr.setCell (Fr.refl _ _) _ _ (fun _ => rfl)
  have nt : ∀ g, g = w.heap.size + 1 → ¬ Tag w2 g 5 := by rintro g rfl; exact Tag.not H4.out (by decide)
  refine bodyPost_ret (v := .int .i64 0) (by simp [results, Tryz.results83, go_sem, q3]) rfl ⟨rfl, H3.out.fr F (by omega) nt, ?_⟩
  exact ((Fr.of_below (S := fun k => k = p) hA).trans H5.out (fun x hx h => by omega)).trans F (fun x hx h => by omega)
set_option maxRecDepth 100000 in
set_option maxHeartbeats 1000000 in
theorem rbytes_ok (w : World) (p : Nat) (bs : List UInt8) (h : RdAt w p bs 0) (most : Nat) (hm : most ≤ 1099511627776) (r l : List UInt8) (hl : r.length ≤ 1099511627776) (hd : decB most bs = .ok (r, l)) :
    Calls Tryz.prog 85 #[.pointer (some ⟨p, 0, none⟩), .int .i64 most] w fun e w' => ∃ v, e = .returned v ∧ RdAt w' p l 0 ∧ (∃ a k, v = .slice a r.length k ∧ OB w' v r) ∧ Fr (fun k => k = p) w w' := by
  have hmf : ∀ (fn : Fn) (first cap : Array Value) (w : World), (Instr.makeFunc fn first cap).run Tryz.prog w = .ok (.func fn first cap) w := fun _ _ _ _ => rfl
  have HR := Lib.hid h
  have hp := h.lt
  clear h
  go_enter Tryz.func85, Tryz.ntmps85
  go_upto_region 1 with fail
  obtain ⟨hA, b0, b1, b2⟩ := three_boxT w (.pointer (some ⟨p, 0, none⟩)) (.int .i64 most) (.slice none 0 0) 122 3 52
  generalize ((w.alloc (.cells #[.pointer (some ⟨p, 0, none⟩)] 122)).alloc (.cells #[.int .i64 most] 3)).alloc (.cells #[.slice none 0 0] 52) = w1 at *
  have HR1 := Lib.hid (HR.out.below hA)
  have q0 := b0.cell
  have B0 := Lib.hid b0
  have B1 := Lib.hid b1
  have B2 := Lib.hid b2
  clear b0 b1 b2
  go_wp2_with fail
  refine (readsbytes_ok w1 p bs HR1.out _ _ _ _ most hm B0.out B1.out B2.out r l hl hd).mono ?_
  rintro e w2 ⟨rfl, h3, h4, h5⟩
  obtain ⟨a, k, h4, h6⟩ := h4
  have H6 := Lib.hid h6
  have q1 := h4.cell
  have f1 := free_at h4 0
  have H3 := Lib.hid h3
  have H4 := Lib.hid h4
  have H5 := Lib.hid h5
  clear h3 h4 h5 q0
  go_wp2_with fail
  have B3 := H4.out.set (.slice a r.length k)
  have q3 := B3.cell
  have F : Fr (fun k => k = w.heap.size + 2) w2 (w2.setCell ⟨w.heap.size + 2, 0, none⟩ (.slice a r.length k)) := Fr.setCell (Fr.refl _ _) _ _ (fun _ => rfl)
  have nt : ∀ g, g = w.heap.size + 2 → ¬ Tag w2 g 5 := by rintro g rfl; exact Tag.not H4.out (by decide)
  refine bodyPost_ret (v := .slice a r.length k) (by simp [results, Tryz.results85, go_sem, q3]) rfl ⟨_, rfl, H3.out.fr F (by omega) nt, ⟨_, _, rfl, H6.out.fr F nt⟩, ?_⟩
  exact ((Fr.of_below (S := fun k => k = p) hA).trans H5.out (fun x hx h => by omega)).trans F (fun x hx h => by omega)
set_option maxRecDepth 100000 in
set_option maxHeartbeats 1000000 in
theorem rbytes_no (w : World) (p : Nat) (bs : List UInt8) (h : RdAt w p bs 0) (most : Nat) (hm : most ≤ 1099511627776) (c : Int) (hd : decB most bs = .error c) :
    Calls Tryz.prog 85 #[.pointer (some ⟨p, 0, none⟩), .int .i64 most] w fun e w' => ∃ v, e = .returned v ∧ RdAt w' p [] c ∧ v = .slice none 0 0 ∧ Fr (fun k => k = p) w w' := by
  have hmf : ∀ (fn : Fn) (first cap : Array Value) (w : World), (Instr.makeFunc fn first cap).run Tryz.prog w = .ok (.func fn first cap) w := fun _ _ _ _ => rfl
  have HR := Lib.hid h
  have hp := h.lt
  clear h
  go_enter Tryz.func85, Tryz.ntmps85
  go_upto_region 1 with fail
  obtain ⟨hA, b0, b1, b2⟩ := three_boxT w (.pointer (some ⟨p, 0, none⟩)) (.int .i64 most) (.slice none 0 0) 122 3 52
  generalize ((w.alloc (.cells #[.pointer (some ⟨p, 0, none⟩)] 122)).alloc (.cells #[.int .i64 most] 3)).alloc (.cells #[.slice none 0 0] 52) = w1 at *
  have HR1 := Lib.hid (HR.out.below hA)
  have q0 := b0.cell
  have B0 := Lib.hid b0
  have B1 := Lib.hid b1
  have B2 := Lib.hid b2
  clear b0 b1 b2
  go_wp2_with fail
  refine (readsbytes_no w1 p bs HR1.out _ _ _ _ most hm B0.out B1.out B2.out c hd).mono ?_
  rintro e w2 ⟨rfl, h3, h4, h5⟩
  have q1 := h4.cell
  have f1 := free_at h4 0
  have H3 := Lib.hid h3
  have H4 := Lib.hid h4
  have H5 := Lib.hid h5
  clear h3 h4 h5 q0
  go_wp2_with fail
  have B3 := H4.out.set (.slice none 0 0)
  have q3 := B3.cell
  have F : Fr (fun k => k = w.heap.size + 2) w2 (w2.setCell ⟨w.heap.size + 2, 0, none⟩ (.slice none 0 0)) := Fr.setCell (Fr.refl _ _) _ _ (fun _ => rfl)
  have nt : ∀ g, g = w.heap.size + 2 → ¬ Tag w2 g 5 := by rintro g rfl; exact Tag.not H4.out (by decide)
  refine bodyPost_ret (v := .slice none 0 0) (by simp [results, Tryz.results85, go_sem, q3]) rfl ⟨_, rfl, H3.out.fr F (by omega) nt, rfl, ?_⟩
  exact ((Fr.of_below (S := fun k => k = p) hA).trans H5.out (fun x hx h => by omega)).trans F (fun x hx h => by omega)
end Go.Proofs.YtpnlcogbahjnoaaGreat.F
