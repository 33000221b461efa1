/- FileKnown answers true, walked. Conditions: none. -/
import Derived.Test.YtpnlcogbahjnoaaOne
namespace Go.Proofs.Ytpnlcogbahjnoaa.F
open Go.RowKit Go.Proofs.Ytpnlcogbahjnoaa.M
set_option linter.unusedVariables false

theorem app0_fuse1 (w : World) (f b m : Nat) (st : Int) (h : Files w f b m (fun _ => none) st 1 false) (s : ByteArray) (k : List UInt8) (hk : s.data.toList = k) (hn : named k = true) (v : Value) (cs : List UInt8) (hv : Bytes w v cs) (hl : cs.length ≤ 1099511627776)
    (hm : m ≤ 1099511627776) (h1 : 0 ≤ st) (h2 : st ≤ 1099511627776) :
    Calls Try.prog 29 #[.pointer (some ⟨f, 0, none⟩), .string s, v] w fun e w' => e = .returned (.int .i64 0) ∧ Files w' f b (m + 1) (one k cs 0) (st + 1) 0 false ∧ Fr (fun k => k = f ∨ k = b) w w' := by
  subst hk
  refine (append_ok w f b m _ st 1 h s hn v cs hv (by simpa [cb] using hl) hm h1 h2 (by omega)).mono ?_
  rintro e w' ⟨rfl, hF, hG⟩
  have e1 : cb (fun _ => none) s.data.toList = [] := rfl
  have e2 : cl (fun _ => none) s.data.toList = 0 := rfl
  rw [e1, e2, List.nil_append, upd_none] at hF
  exact ⟨rfl, hF, hG⟩
theorem syn1_fuse0 (w : World) (f b m : Nat) (st : Int) (k bs : List UInt8) (l : Nat) (h : Files w f b m (one k bs l) st 0 false) (s : ByteArray) (hk : s.data.toList = k) (hn : named k = true)
    (hm : m ≤ 1099511627776) (h1 : 0 ≤ st) (h2 : st ≤ 1099511627776) :
    Calls Try.prog 30 #[.pointer (some ⟨f, 0, none⟩), .string s] w fun e w' => e = .returned (.int .i64 7) ∧ Files w' f b (m + 1) (one k bs l) (st + 1) 0 true ∧ Fr (fun k => k = f ∨ k = b) w w' := by
  subst hk
  have hs : s.size ≤ maxLen := by
    have : s.data.toList.length ≤ 24 := by simp [named] at hn ⊢; omega
    simp at this
    simp only [maxLen]; omega
  refine (sync_ok w f b m _ st 0 h s hs bs l (one_at _ _ _) hm h1 h2 (by omega)).mono ?_
  rintro e w' ⟨rfl, hF, hG⟩
  exact ⟨rfl, hF, hG⟩

set_option maxRecDepth 100000 in
set_option maxHeartbeats 4000000 in
theorem known12_yes (w : World) :
    Calls Try.prog 8 #[] w fun e w' => e = .returned (.bool true) ∧ Below w.heap.size w w' := by
  go_enter Try.func8, Try.ntmps8
  go_wp2_with fail
  refine (awake12_yes w).mono ?_
  rintro e w0 ⟨rfl, hb0⟩
  have B0 := Lib.hid hb0
  clear hb0
  go_wp2_with fail
  refine (new_any w0).mono ?_
  rintro e w1 ⟨f, b, rfl, hf0, hb0, h1, hb1⟩
  have hf : w.heap.size ≤ f := Nat.le_trans B0.out.size hf0
  have hb : w.heap.size ≤ b := Nat.le_trans B0.out.size hb0
  have H1 := Lib.hid h1
  have B1 := Lib.hid (B0.out.trans (hb1.mono B0.out.size))
  clear h1 hb1 B0 hf0 hb0
  go_wp2_with fail
  refine (fuse_on w1 f b _ _ _ _ 1 H1.out).mono ?_
  rintro e w2 ⟨rfl, h2, f2⟩
  have B2 := Lib.hid (B1.out.trans (f2.below B1.out.size (by rintro x rfl; exact hf)))
  have H2 := Lib.hid h2
  clear h2 f2 H1 B1
  go_wp2_with fail
  have hA : Below w2.heap.size w2 (w2.alloc (.cells #[.int .u8 5] 5)) := (Below.refl _ _).alloc (Nat.le_refl _) _
  refine (app0_fuse1 _ f b 0 0 (H2.out.below hA) ⟨#[97]⟩ [97] rfl rfl _ [5] (Bytes.lit [5] (heap_alloc_new w2 _) rfl (by decide)) (by decide) (by omega) (by omega) (by omega)).mono ?_
  rintro e w3 ⟨rfl, h3, f3⟩
  have B3 := Lib.hid ((B2.out.trans (hA.mono B2.out.size)).trans (f3.below (Nat.le_trans B2.out.size hA.size) (by rintro x (rfl | rfl) <;> assumption)))
  have H3 := Lib.hid h3
  clear h3 f3 hA H2 B2
  go_wp2_with fail
  refine (syn1_fuse0 w3 f b _ _ [97] [5] 0 H3.out ⟨#[97]⟩ rfl rfl (by omega) (by omega) (by omega)).mono ?_
  rintro e w4 ⟨rfl, h4, f4⟩
  have B4 := Lib.hid (B3.out.trans (f4.below B3.out.size (by rintro x (rfl | rfl) <;> assumption)))
  have H4 := Lib.hid h4
  clear h4 f4 H3 B3
  go_wp2_with fail
  have hA : Below w4.heap.size w4 (w4.alloc (.cells #[.int .u8 6] 5)) := (Below.refl _ _).alloc (Nat.le_refl _) _
  refine (append_dead _ f b _ _ _ _ (H4.out.below hA) _ _).mono ?_
  rintro e w5 ⟨rfl, rfl⟩
  have B5 := Lib.hid (B4.out.trans (hA.mono B4.out.size))
  have H5 := Lib.hid (H4.out.below hA)
  clear hA B4 H4
  generalize w4.alloc (.cells #[.int .u8 6] 5) = w5 at *
  go_wp2_with fail
  refine (read_any w5 f b _ _ _ _ _ H5.out ⟨#[98]⟩ (by decide) (by decide)).mono ?_
  rintro e w6 ⟨v6, rfl, h6, f6⟩
  obtain ⟨a6, c6, rfl, _, _⟩ := h6.reads.shape
  have B6 := Lib.hid (B5.out.trans (f6.mono B5.out.size))
  have H6 := Lib.hid (H5.out.below f6)
  clear h6 f6 B5 H5
  have hno : ((one [97] [5] 0) (⟨#[98]⟩ : ByteArray).data.toList).isSome = false := by decide
  go_wp2_with fail
  refine (dead_any w6 f b _ _ _ _ _ H6.out).mono ?_
  rintro e w6 ⟨rfl, rfl⟩
  go_wp2_with fail
  refine (steps_any w6 f b _ _ _ _ _ H6.out).mono ?_
  rintro e w6 ⟨rfl, rfl⟩
  go_wp2_with fail
  go_ret
  exact ⟨rfl, B6.out⟩
end Go.Proofs.Ytpnlcogbahjnoaa.F
