/- FileRenames answers true, walked. Conditions stand at each theorem. -/
import Derived.Test.YtpnlcogbahjnoaaOne
namespace Go.Proofs.Ytpnlcogbahjnoaa.F
open Go.RowKit Go.Proofs.Ytpnlcogbahjnoaa.M
set_option linter.unusedVariables false

theorem and3 (x : Int) : ∃ n : Nat, n ≤ 3 ∧ bits .and .i64 x 3 = n := by
  have h3 : ((BitVec.ofInt 64 x) &&& BitVec.ofInt 64 3).toNat ≤ 3 := by
    rw [BitVec.toNat_and]
    exact Nat.and_le_right
  refine ⟨((BitVec.ofInt 64 x) &&& BitVec.ofInt 64 3).toNat, h3, ?_⟩
  show IntKind.i64.wrap (((BitVec.ofInt 64 x &&& BitVec.ofInt 64 3).toNat : Nat) : Int) = _
  exact IntWalk.i64_in _ (by omega)
theorem cutN_zero (ks : List Int) (i : Nat) (x : List UInt8) : cutN ks i x x.length = 0 := by
  unfold cutN
  split <;> omega
theorem crash_at (C : Disk) (ss : List (List UInt8)) (ks : List Int) (k x : List UInt8) (h : C k = some (x, x.length)) : crashD C ss ks k = some (x, x.length) := by
  simp [crashD, h, cutN_zero]
theorem upd_len (C : Disk) (k x : List UInt8) (l : Nat) (h : ∀ k', (cb C k').length ≤ 1099511627776) (hx : x.length ≤ 1099511627776) : ∀ k', (cb (upd C k (some (x, l))) k').length ≤ 1099511627776 := by
  intro k'
  by_cases hk : k' = k
  · subst hk; simpa [cb, upd] using hx
  · have := h k'
    simpa [cb, upd, hk] using this
theorem del_len (C : Disk) (k : List UInt8) (h : ∀ k', (cb C k').length ≤ 1099511627776) : ∀ k', (cb (upd C k none) k').length ≤ 1099511627776 := by
  intro k'
  by_cases hk : k' = k
  · subst hk; simp [cb, upd]
  · have := h k'
    simpa [cb, upd, hk] using this
theorem crashA (w : World) (f b m : Nat) (C : Disk) (st fu : Int) (dead : Bool) (k x : List UInt8) (h : Files w f b m C st fu dead) (hx : C k = some (x, x.length)) (hl : ∀ k', (cb C k').length ≤ 1099511627776) (hm : m ≤ 1099511627776)
    (kv : Value) (ks : List Int) (hkv : Reads w 1 kv ks.length (ks.map (.int .i64))) (hks : ∀ x ∈ ks, -9223372036854775808 ≤ x ∧ x ≤ 9223372036854775807) :
    Calls Try.prog 31 #[.pointer (some ⟨f, 0, none⟩), kv] w fun e w' => ∃ f' b' C', e = .returned (.pointer (some ⟨f', 0, none⟩)) ∧ Files w' f' b' m C' 0 (-1) false ∧ C' k = some (x, x.length) ∧ Below w.heap.size w w' := by
  refine (crash_any w f b m C st fu dead h hm hl kv ks hkv hks).mono ?_
  rintro e w' ⟨f', b', ss, rfl, h1, h2, h3, h4, h5, h6⟩
  exact ⟨f', b', _, rfl, h5, crash_at C ss ks k x hx, h6⟩
theorem readA (w : World) (f b m : Nat) (C : Disk) (st fu : Int) (dead : Bool) (k x : List UInt8) (h : Files w f b m C st fu dead) (hx : C k = some (x, x.length)) (hl : x.length ≤ 1099511627776) (s : ByteArray) (hk : s.data.toList = k) (hs : s.size ≤ maxLen) :
    Calls Try.prog 23 #[.pointer (some ⟨f, 0, none⟩), .string s] w fun e w' => ∃ v', e = .returned (.tuple #[v', .bool true]) ∧ OwnZ w' w.heap.size 5 1 v' x.length (x.map u8) ∧ Below w.heap.size w w' := by
  subst hk
  have e1 : cb C s.data.toList = x := by simp [cb, hx]
  refine (read_any w f b m C st fu dead h s hs (by rw [e1]; exact hl)).mono ?_
  rintro e w' ⟨v', rfl, h1, h2⟩
  rw [e1] at h1
  exact ⟨v', by simp [hx], h1, h2⟩

set_option maxRecDepth 100000 in
set_option maxHeartbeats 4000000 in
theorem renames_0 (W : World) (v0 v1 : Value) (xa xb : List UInt8) (h0 : Bytes W v0 xa) (h1 : Bytes W v1 xb) (hl0 : xa.length ≤ 3000) (hl1 : xb.length ≤ 3000) (keep : Int) (hk1 : -9223372036854775808 ≤ keep) (hk2 : keep ≤ 9223372036854775807) (hn : bits .and .i64 keep 3 = 0) :
    Calls Try.prog 7 #[v0, v1, .int .i64 keep] W fun e w' => e = .returned (.bool true) ∧ Below W.heap.size W w' := by
  obtain ⟨a0, c0, rfl, hc0, hm0⟩ := h0.shape
  obtain ⟨a1, c1, rfl, hc1, hm1⟩ := h1.shape
  have HA := Lib.hid h0
  have HB := Lib.hid h1
  clear h0 h1
  go_enter Try.func7, Try.ntmps7
  go_wp2_with fail
  refine (awake12_yes W).mono ?_
  rintro e w0 ⟨rfl, hb0⟩
  have B0 := Lib.hid hb0
  clear hb0
  go_wp2_with fail
  refine (new_any w0).mono ?_
  rintro e w1 ⟨f, b, rfl, hf0, hb0, h1, hb1⟩
  have hf : W.heap.size ≤ f := Nat.le_trans B0.out.size hf0
  have hb : W.heap.size ≤ b := Nat.le_trans B0.out.size hb0
  have H1 := Lib.hid h1
  have B1 := Lib.hid (B0.out.trans (hb1.mono B0.out.size))
  clear h1 hb1 B0 hf0 hb0
  go_wp2_with fail
  refine (app0 _ f b 0 0 H1.out ⟨#[97]⟩ [97] rfl rfl _ xa (HA.out.old B1.out (Nat.le_refl _)) (by omega) (by omega) (by omega) (by omega)).mono ?_
  rintro e w2 ⟨rfl, h2, f2⟩
  have B2 := Lib.hid (B1.out.trans (f2.below B1.out.size (by rintro x (rfl | rfl) <;> assumption)))
  have H2 := Lib.hid h2
  clear h2 f2 H1 B1
  go_wp2_with fail
  refine (syn1 w2 f b _ _ [97] xa 0 H2.out ⟨#[97]⟩ rfl rfl (by omega) (by omega) (by omega)).mono ?_
  rintro e w3 ⟨rfl, h3, f3⟩
  have B3 := Lib.hid (B2.out.trans (f3.below B2.out.size (by rintro x (rfl | rfl) <;> assumption)))
  have H3 := Lib.hid h3
  clear h3 f3 H2 B2
  go_wp2_with fail
  refine (fuse_on w3 f b _ _ _ _ 0 H3.out).mono ?_
  rintro e w4 ⟨rfl, h4, f4⟩
  have B4 := Lib.hid (B3.out.trans (f4.below B3.out.size (by rintro x rfl; exact hf)))
  have H4 := Lib.hid h4
  clear h4 f4 H3 B3
  go_wp2_with fail
  have e1 : cb (one [97] xa xa.length) [98] = [] := by simp [cb, one]
  have e2 : cl (one [97] xa xa.length) [98] = 0 := by simp [cl, one]
  refine (append_ok w4 f b _ _ _ 0 H4.out ⟨#[98]⟩ rfl _ xb (HB.out.old B4.out (Nat.le_refl _)) (by show (cb (one [97] xa xa.length) [98]).length + xb.length ≤ _; rw [e1]; simp; omega) (by omega) (by omega) (by omega) (by omega)).mono ?_
  rintro e w5 ⟨rfl, h5, f5⟩
  have h5' : Files w5 f b 3 (upd (one [97] xa xa.length) [98] (some (xb, 0))) 3 0 true := by
    have h := h5
    have ek : (⟨#[98]⟩ : ByteArray).data.toList = [98] := rfl
    rw [ek, e1, e2] at h
    exact h
  have B5 := Lib.hid (B4.out.trans (f5.below B4.out.size (by rintro x (rfl | rfl) <;> assumption)))
  have H5 := Lib.hid h5'
  have ee5 : stepE 0 = 7 := rfl
  rw [ee5]
  clear h5 h5' f5 H4 B4 e1 e2 ee5
  go_wp2_with fail
  have hA : Below w5.heap.size w5 (w5.alloc (.cells #[.int .i64 keep, .int .i64 keep] 3)) := (Below.refl _ _).alloc (Nat.le_refl _) _
  refine (crashA _ f b _ _ _ _ _ [97] xa (H5.out.below hA) (by simp [upd, one]) (upd_len _ _ _ _ (one_len _ _ _ (by omega)) (by omega)) (by omega) _ [keep, keep] (ints_lit [keep, keep] (heap_alloc_new w5 _) rfl (by simp)) (by simp; omega)).mono ?_
  rintro e x1 ⟨f8, b8, C8, rfl, h8, g8, k8⟩
  have B8 := Lib.hid ((B5.out.trans (hA.mono B5.out.size)).trans (k8.mono (Nat.le_trans B5.out.size hA.size)))
  have H8 := Lib.hid h8
  have G8 := Lib.hid g8
  clear h8 g8 k8 hA H5 B5
  go_wp2_with fail
  refine (readA x1 f8 b8 _ C8 _ _ _ [97] xa H8.out G8.out (by omega) ⟨#[97]⟩ rfl (by decide)).mono ?_
  rintro e x2 ⟨v9, rfl, h9, k9⟩
  obtain ⟨a9, c9, rfl, _, _⟩ := h9.reads.shape
  have B9 := Lib.hid (B8.out.trans (k9.mono B8.out.size))
  have R9 := Lib.hid h9
  clear h9 k9 B8 H8 G8
  go_wp2_with fail
  refine (same_any x2 _ _ xa xa R9.out.reads (HA.out.old B9.out (Nat.le_refl _))).mono ?_
  rintro e x3 ⟨rfl, n3, rfl⟩
  go_wp2_with fail
  go_ret
  exact ⟨rfl, below_drewN B9.out _⟩

set_option maxRecDepth 100000 in
set_option maxHeartbeats 4000000 in
theorem renames_1 (W : World) (v0 v1 : Value) (xa xb : List UInt8) (h0 : Bytes W v0 xa) (h1 : Bytes W v1 xb) (hl0 : xa.length ≤ 3000) (hl1 : xb.length ≤ 3000) (keep : Int) (hk1 : -9223372036854775808 ≤ keep) (hk2 : keep ≤ 9223372036854775807) (hn : bits .and .i64 keep 3 = 1) :
    Calls Try.prog 7 #[v0, v1, .int .i64 keep] W fun e w' => e = .returned (.bool true) ∧ Below W.heap.size W w' := by
  obtain ⟨a0, c0, rfl, hc0, hm0⟩ := h0.shape
  obtain ⟨a1, c1, rfl, hc1, hm1⟩ := h1.shape
  have HA := Lib.hid h0
  have HB := Lib.hid h1
  clear h0 h1
  go_enter Try.func7, Try.ntmps7
  go_wp2_with fail
  refine (awake12_yes W).mono ?_
  rintro e w0 ⟨rfl, hb0⟩
  have B0 := Lib.hid hb0
  clear hb0
  go_wp2_with fail
  refine (new_any w0).mono ?_
  rintro e w1 ⟨f, b, rfl, hf0, hb0, h1, hb1⟩
  have hf : W.heap.size ≤ f := Nat.le_trans B0.out.size hf0
  have hb : W.heap.size ≤ b := Nat.le_trans B0.out.size hb0
  have H1 := Lib.hid h1
  have B1 := Lib.hid (B0.out.trans (hb1.mono B0.out.size))
  clear h1 hb1 B0 hf0 hb0
  go_wp2_with fail
  refine (app0 _ f b 0 0 H1.out ⟨#[97]⟩ [97] rfl rfl _ xa (HA.out.old B1.out (Nat.le_refl _)) (by omega) (by omega) (by omega) (by omega)).mono ?_
  rintro e w2 ⟨rfl, h2, f2⟩
  have B2 := Lib.hid (B1.out.trans (f2.below B1.out.size (by rintro x (rfl | rfl) <;> assumption)))
  have H2 := Lib.hid h2
  clear h2 f2 H1 B1
  go_wp2_with fail
  refine (syn1 w2 f b _ _ [97] xa 0 H2.out ⟨#[97]⟩ rfl rfl (by omega) (by omega) (by omega)).mono ?_
  rintro e w3 ⟨rfl, h3, f3⟩
  have B3 := Lib.hid (B2.out.trans (f3.below B2.out.size (by rintro x (rfl | rfl) <;> assumption)))
  have H3 := Lib.hid h3
  clear h3 f3 H2 B2
  go_wp2_with fail
  refine (fuse_on w3 f b _ _ _ _ 1 H3.out).mono ?_
  rintro e w4 ⟨rfl, h4, f4⟩
  have B4 := Lib.hid (B3.out.trans (f4.below B3.out.size (by rintro x rfl; exact hf)))
  have H4 := Lib.hid h4
  clear h4 f4 H3 B3
  go_wp2_with fail
  have e1 : cb (one [97] xa xa.length) [98] = [] := by simp [cb, one]
  have e2 : cl (one [97] xa xa.length) [98] = 0 := by simp [cl, one]
  refine (append_ok w4 f b _ _ _ 1 H4.out ⟨#[98]⟩ rfl _ xb (HB.out.old B4.out (Nat.le_refl _)) (by show (cb (one [97] xa xa.length) [98]).length + xb.length ≤ _; rw [e1]; simp; omega) (by omega) (by omega) (by omega) (by omega)).mono ?_
  rintro e w5 ⟨rfl, h5, f5⟩
  have h5' : Files w5 f b 3 (upd (one [97] xa xa.length) [98] (some (xb, 0))) 3 0 false := by
    have h := h5
    have ek : (⟨#[98]⟩ : ByteArray).data.toList = [98] := rfl
    rw [ek, e1, e2] at h
    exact h
  have B5 := Lib.hid (B4.out.trans (f5.below B4.out.size (by rintro x (rfl | rfl) <;> assumption)))
  have H5 := Lib.hid h5'
  have ee5 : stepE 1 = 0 := rfl
  rw [ee5]
  clear h5 h5' f5 H4 B4 e1 e2 ee5
  go_wp2_with fail
  refine (sync_ok w5 f b _ _ _ 0 H5.out ⟨#[98]⟩ (by decide) xb 0 (by simp [upd]) (by omega) (by omega) (by omega) (by omega)).mono ?_
  rintro e w6 ⟨rfl, h6, f6⟩
  have h6' : Files w6 f b 4 (upd (one [97] xa xa.length) [98] (some (xb, 0))) 4 0 true := by
    have h := h6
    have ek : (⟨#[98]⟩ : ByteArray).data.toList = [98] := rfl
    rw [ek] at h
    have ec : ifz 0 (upd (one [97] xa xa.length) [98] (some (xb, 0))) (upd (upd (one [97] xa xa.length) [98] (some (xb, 0))) [98] (some (xb, xb.length))) = upd (one [97] xa xa.length) [98] (some (xb, 0)) := by
      rfl
    rw [ec] at h
    exact h
  have B6 := Lib.hid (B5.out.trans (f6.below B5.out.size (by rintro x (rfl | rfl) <;> assumption)))
  have H6 := Lib.hid h6'
  have ee6 : stepE 0 = 7 := rfl
  rw [ee6]
  clear h6 h6' f6 H5 B5 ee6
  go_wp2_with fail
  have hA : Below w6.heap.size w6 (w6.alloc (.cells #[.int .i64 keep, .int .i64 keep] 3)) := (Below.refl _ _).alloc (Nat.le_refl _) _
  refine (crashA _ f b _ _ _ _ _ [97] xa (H6.out.below hA) (by simp [upd, one]) (upd_len _ _ _ _ (one_len _ _ _ (by omega)) (by omega)) (by omega) _ [keep, keep] (ints_lit [keep, keep] (heap_alloc_new w6 _) rfl (by simp)) (by simp; omega)).mono ?_
  rintro e x1 ⟨f8, b8, C8, rfl, h8, g8, k8⟩
  have B8 := Lib.hid ((B6.out.trans (hA.mono B6.out.size)).trans (k8.mono (Nat.le_trans B6.out.size hA.size)))
  have H8 := Lib.hid h8
  have G8 := Lib.hid g8
  clear h8 g8 k8 hA H6 B6
  go_wp2_with fail
  refine (readA x1 f8 b8 _ C8 _ _ _ [97] xa H8.out G8.out (by omega) ⟨#[97]⟩ rfl (by decide)).mono ?_
  rintro e x2 ⟨v9, rfl, h9, k9⟩
  obtain ⟨a9, c9, rfl, _, _⟩ := h9.reads.shape
  have B9 := Lib.hid (B8.out.trans (k9.mono B8.out.size))
  have R9 := Lib.hid h9
  clear h9 k9 B8 H8 G8
  go_wp2_with fail
  refine (same_any x2 _ _ xa xa R9.out.reads (HA.out.old B9.out (Nat.le_refl _))).mono ?_
  rintro e x3 ⟨rfl, n3, rfl⟩
  go_wp2_with fail
  go_ret
  exact ⟨rfl, below_drewN B9.out _⟩

set_option maxRecDepth 100000 in
set_option maxHeartbeats 4000000 in
theorem renames_2 (W : World) (v0 v1 : Value) (xa xb : List UInt8) (h0 : Bytes W v0 xa) (h1 : Bytes W v1 xb) (hl0 : xa.length ≤ 3000) (hl1 : xb.length ≤ 3000) (keep : Int) (hk1 : -9223372036854775808 ≤ keep) (hk2 : keep ≤ 9223372036854775807) (hn : bits .and .i64 keep 3 = 2) :
    Calls Try.prog 7 #[v0, v1, .int .i64 keep] W fun e w' => e = .returned (.bool true) ∧ Below W.heap.size W w' := by
  obtain ⟨a0, c0, rfl, hc0, hm0⟩ := h0.shape
  obtain ⟨a1, c1, rfl, hc1, hm1⟩ := h1.shape
  have HA := Lib.hid h0
  have HB := Lib.hid h1
  clear h0 h1
  go_enter Try.func7, Try.ntmps7
  go_wp2_with fail
  refine (awake12_yes W).mono ?_
  rintro e w0 ⟨rfl, hb0⟩
  have B0 := Lib.hid hb0
  clear hb0
  go_wp2_with fail
  refine (new_any w0).mono ?_
  rintro e w1 ⟨f, b, rfl, hf0, hb0, h1, hb1⟩
  have hf : W.heap.size ≤ f := Nat.le_trans B0.out.size hf0
  have hb : W.heap.size ≤ b := Nat.le_trans B0.out.size hb0
  have H1 := Lib.hid h1
  have B1 := Lib.hid (B0.out.trans (hb1.mono B0.out.size))
  clear h1 hb1 B0 hf0 hb0
  go_wp2_with fail
  refine (app0 _ f b 0 0 H1.out ⟨#[97]⟩ [97] rfl rfl _ xa (HA.out.old B1.out (Nat.le_refl _)) (by omega) (by omega) (by omega) (by omega)).mono ?_
  rintro e w2 ⟨rfl, h2, f2⟩
  have B2 := Lib.hid (B1.out.trans (f2.below B1.out.size (by rintro x (rfl | rfl) <;> assumption)))
  have H2 := Lib.hid h2
  clear h2 f2 H1 B1
  go_wp2_with fail
  refine (syn1 w2 f b _ _ [97] xa 0 H2.out ⟨#[97]⟩ rfl rfl (by omega) (by omega) (by omega)).mono ?_
  rintro e w3 ⟨rfl, h3, f3⟩
  have B3 := Lib.hid (B2.out.trans (f3.below B2.out.size (by rintro x (rfl | rfl) <;> assumption)))
  have H3 := Lib.hid h3
  clear h3 f3 H2 B2
  go_wp2_with fail
  refine (fuse_on w3 f b _ _ _ _ 2 H3.out).mono ?_
  rintro e w4 ⟨rfl, h4, f4⟩
  have B4 := Lib.hid (B3.out.trans (f4.below B3.out.size (by rintro x rfl; exact hf)))
  have H4 := Lib.hid h4
  clear h4 f4 H3 B3
  go_wp2_with fail
  have e1 : cb (one [97] xa xa.length) [98] = [] := by simp [cb, one]
  have e2 : cl (one [97] xa xa.length) [98] = 0 := by simp [cl, one]
  refine (append_ok w4 f b _ _ _ 2 H4.out ⟨#[98]⟩ rfl _ xb (HB.out.old B4.out (Nat.le_refl _)) (by show (cb (one [97] xa xa.length) [98]).length + xb.length ≤ _; rw [e1]; simp; omega) (by omega) (by omega) (by omega) (by omega)).mono ?_
  rintro e w5 ⟨rfl, h5, f5⟩
  have h5' : Files w5 f b 3 (upd (one [97] xa xa.length) [98] (some (xb, 0))) 3 1 false := by
    have h := h5
    have ek : (⟨#[98]⟩ : ByteArray).data.toList = [98] := rfl
    rw [ek, e1, e2] at h
    exact h
  have B5 := Lib.hid (B4.out.trans (f5.below B4.out.size (by rintro x (rfl | rfl) <;> assumption)))
  have H5 := Lib.hid h5'
  have ee5 : stepE 2 = 0 := rfl
  rw [ee5]
  clear h5 h5' f5 H4 B4 e1 e2 ee5
  go_wp2_with fail
  refine (sync_ok w5 f b _ _ _ 1 H5.out ⟨#[98]⟩ (by decide) xb 0 (by simp [upd]) (by omega) (by omega) (by omega) (by omega)).mono ?_
  rintro e w6 ⟨rfl, h6, f6⟩
  have h6' : Files w6 f b 4 (upd (one [97] xa xa.length) [98] (some (xb, xb.length))) 4 0 false := by
    have h := h6
    have ek : (⟨#[98]⟩ : ByteArray).data.toList = [98] := rfl
    rw [ek] at h
    have ec : ifz 1 (upd (one [97] xa xa.length) [98] (some (xb, 0))) (upd (upd (one [97] xa xa.length) [98] (some (xb, 0))) [98] (some (xb, xb.length))) = upd (one [97] xa xa.length) [98] (some (xb, xb.length)) := by
      funext k; by_cases hk : k = [98] <;> simp [ifz, upd, hk]
    rw [ec] at h
    exact h
  have B6 := Lib.hid (B5.out.trans (f6.below B5.out.size (by rintro x (rfl | rfl) <;> assumption)))
  have H6 := Lib.hid h6'
  have ee6 : stepE 1 = 0 := rfl
  rw [ee6]
  clear h6 h6' f6 H5 B5 ee6
  go_wp2_with fail
  refine (rename_ok w6 f b _ _ _ 0 H6.out ⟨#[98]⟩ (by decide) ⟨#[97]⟩ (by decide) rfl xb xb.length (Nat.le_refl _) (by simp [upd]) (by omega) (by omega) (by omega) (by omega)).mono ?_
  rintro e w7 ⟨rfl, h7, f7⟩
  have h7' : Files w7 f b 5 (upd (one [97] xa xa.length) [98] (some (xb, xb.length))) 5 0 true := h7
  have B7 := Lib.hid (B6.out.trans (f7.below B6.out.size (by rintro x (rfl | rfl) <;> assumption)))
  have H7 := Lib.hid h7'
  have ee7 : stepE 0 = 7 := rfl
  rw [ee7]
  clear h7 h7' f7 H6 B6 ee7
  go_wp2_with fail
  have hA : Below w7.heap.size w7 (w7.alloc (.cells #[.int .i64 keep, .int .i64 keep] 3)) := (Below.refl _ _).alloc (Nat.le_refl _) _
  refine (crashA _ f b _ _ _ _ _ [97] xa (H7.out.below hA) (by simp [upd, one]) (upd_len _ _ _ _ (one_len _ _ _ (by omega)) (by omega)) (by omega) _ [keep, keep] (ints_lit [keep, keep] (heap_alloc_new w7 _) rfl (by simp)) (by simp; omega)).mono ?_
  rintro e x1 ⟨f8, b8, C8, rfl, h8, g8, k8⟩
  have B8 := Lib.hid ((B7.out.trans (hA.mono B7.out.size)).trans (k8.mono (Nat.le_trans B7.out.size hA.size)))
  have H8 := Lib.hid h8
  have G8 := Lib.hid g8
  clear h8 g8 k8 hA H7 B7
  go_wp2_with fail
  refine (readA x1 f8 b8 _ C8 _ _ _ [97] xa H8.out G8.out (by omega) ⟨#[97]⟩ rfl (by decide)).mono ?_
  rintro e x2 ⟨v9, rfl, h9, k9⟩
  obtain ⟨a9, c9, rfl, _, _⟩ := h9.reads.shape
  have B9 := Lib.hid (B8.out.trans (k9.mono B8.out.size))
  have R9 := Lib.hid h9
  clear h9 k9 B8 H8 G8
  go_wp2_with fail
  refine (same_any x2 _ _ xa xa R9.out.reads (HA.out.old B9.out (Nat.le_refl _))).mono ?_
  rintro e x3 ⟨rfl, n3, rfl⟩
  go_wp2_with fail
  go_ret
  exact ⟨rfl, below_drewN B9.out _⟩

set_option maxRecDepth 100000 in
set_option maxHeartbeats 4000000 in
theorem renames_3 (W : World) (v0 v1 : Value) (xa xb : List UInt8) (h0 : Bytes W v0 xa) (h1 : Bytes W v1 xb) (hl0 : xa.length ≤ 3000) (hl1 : xb.length ≤ 3000) (keep : Int) (hk1 : -9223372036854775808 ≤ keep) (hk2 : keep ≤ 9223372036854775807) (hn : bits .and .i64 keep 3 = 3) :
    Calls Try.prog 7 #[v0, v1, .int .i64 keep] W fun e w' => e = .returned (.bool true) ∧ Below W.heap.size W w' := by
  obtain ⟨a0, c0, rfl, hc0, hm0⟩ := h0.shape
  obtain ⟨a1, c1, rfl, hc1, hm1⟩ := h1.shape
  have HA := Lib.hid h0
  have HB := Lib.hid h1
  clear h0 h1
  go_enter Try.func7, Try.ntmps7
  go_wp2_with fail
  refine (awake12_yes W).mono ?_
  rintro e w0 ⟨rfl, hb0⟩
  have B0 := Lib.hid hb0
  clear hb0
  go_wp2_with fail
  refine (new_any w0).mono ?_
  rintro e w1 ⟨f, b, rfl, hf0, hb0, h1, hb1⟩
  have hf : W.heap.size ≤ f := Nat.le_trans B0.out.size hf0
  have hb : W.heap.size ≤ b := Nat.le_trans B0.out.size hb0
  have H1 := Lib.hid h1
  have B1 := Lib.hid (B0.out.trans (hb1.mono B0.out.size))
  clear h1 hb1 B0 hf0 hb0
  go_wp2_with fail
  refine (app0 _ f b 0 0 H1.out ⟨#[97]⟩ [97] rfl rfl _ xa (HA.out.old B1.out (Nat.le_refl _)) (by omega) (by omega) (by omega) (by omega)).mono ?_
  rintro e w2 ⟨rfl, h2, f2⟩
  have B2 := Lib.hid (B1.out.trans (f2.below B1.out.size (by rintro x (rfl | rfl) <;> assumption)))
  have H2 := Lib.hid h2
  clear h2 f2 H1 B1
  go_wp2_with fail
  refine (syn1 w2 f b _ _ [97] xa 0 H2.out ⟨#[97]⟩ rfl rfl (by omega) (by omega) (by omega)).mono ?_
  rintro e w3 ⟨rfl, h3, f3⟩
  have B3 := Lib.hid (B2.out.trans (f3.below B2.out.size (by rintro x (rfl | rfl) <;> assumption)))
  have H3 := Lib.hid h3
  clear h3 f3 H2 B2
  go_wp2_with fail
  refine (fuse_on w3 f b _ _ _ _ 3 H3.out).mono ?_
  rintro e w4 ⟨rfl, h4, f4⟩
  have B4 := Lib.hid (B3.out.trans (f4.below B3.out.size (by rintro x rfl; exact hf)))
  have H4 := Lib.hid h4
  clear h4 f4 H3 B3
  go_wp2_with fail
  have e1 : cb (one [97] xa xa.length) [98] = [] := by simp [cb, one]
  have e2 : cl (one [97] xa xa.length) [98] = 0 := by simp [cl, one]
  refine (append_ok w4 f b _ _ _ 3 H4.out ⟨#[98]⟩ rfl _ xb (HB.out.old B4.out (Nat.le_refl _)) (by show (cb (one [97] xa xa.length) [98]).length + xb.length ≤ _; rw [e1]; simp; omega) (by omega) (by omega) (by omega) (by omega)).mono ?_
  rintro e w5 ⟨rfl, h5, f5⟩
  have h5' : Files w5 f b 3 (upd (one [97] xa xa.length) [98] (some (xb, 0))) 3 2 false := by
    have h := h5
    have ek : (⟨#[98]⟩ : ByteArray).data.toList = [98] := rfl
    rw [ek, e1, e2] at h
    exact h
  have B5 := Lib.hid (B4.out.trans (f5.below B4.out.size (by rintro x (rfl | rfl) <;> assumption)))
  have H5 := Lib.hid h5'
  have ee5 : stepE 3 = 0 := rfl
  rw [ee5]
  clear h5 h5' f5 H4 B4 e1 e2 ee5
  go_wp2_with fail
  refine (sync_ok w5 f b _ _ _ 2 H5.out ⟨#[98]⟩ (by decide) xb 0 (by simp [upd]) (by omega) (by omega) (by omega) (by omega)).mono ?_
  rintro e w6 ⟨rfl, h6, f6⟩
  have h6' : Files w6 f b 4 (upd (one [97] xa xa.length) [98] (some (xb, xb.length))) 4 1 false := by
    have h := h6
    have ek : (⟨#[98]⟩ : ByteArray).data.toList = [98] := rfl
    rw [ek] at h
    have ec : ifz 2 (upd (one [97] xa xa.length) [98] (some (xb, 0))) (upd (upd (one [97] xa xa.length) [98] (some (xb, 0))) [98] (some (xb, xb.length))) = upd (one [97] xa xa.length) [98] (some (xb, xb.length)) := by
      funext k; by_cases hk : k = [98] <;> simp [ifz, upd, hk]
    rw [ec] at h
    exact h
  have B6 := Lib.hid (B5.out.trans (f6.below B5.out.size (by rintro x (rfl | rfl) <;> assumption)))
  have H6 := Lib.hid h6'
  have ee6 : stepE 2 = 0 := rfl
  rw [ee6]
  clear h6 h6' f6 H5 B5 ee6
  go_wp2_with fail
  refine (rename_ok w6 f b _ _ _ 1 H6.out ⟨#[98]⟩ (by decide) ⟨#[97]⟩ (by decide) rfl xb xb.length (Nat.le_refl _) (by simp [upd]) (by omega) (by omega) (by omega) (by omega)).mono ?_
  rintro e w7 ⟨rfl, h7, f7⟩
  have h7' : Files w7 f b 5 (upd (upd (upd (one [97] xa xa.length) [98] (some (xb, xb.length))) [98] none) [97] (some (xb, xb.length))) 5 0 false := h7
  have B7 := Lib.hid (B6.out.trans (f7.below B6.out.size (by rintro x (rfl | rfl) <;> assumption)))
  have H7 := Lib.hid h7'
  have ee7 : stepE 1 = 0 := rfl
  rw [ee7]
  clear h7 h7' f7 H6 B6 ee7
  go_wp2_with fail
  have hA : Below w7.heap.size w7 (w7.alloc (.cells #[.int .i64 keep, .int .i64 keep] 3)) := (Below.refl _ _).alloc (Nat.le_refl _) _
  refine (crashA _ f b _ _ _ _ _ [97] xb (H7.out.below hA) (by simp [upd]) (upd_len _ _ _ _ (del_len _ _ (upd_len _ _ _ _ (one_len _ _ _ (by omega)) (by omega))) (by omega)) (by omega) _ [keep, keep] (ints_lit [keep, keep] (heap_alloc_new w7 _) rfl (by simp)) (by simp; omega)).mono ?_
  rintro e x1 ⟨f8, b8, C8, rfl, h8, g8, k8⟩
  have B8 := Lib.hid ((B7.out.trans (hA.mono B7.out.size)).trans (k8.mono (Nat.le_trans B7.out.size hA.size)))
  have H8 := Lib.hid h8
  have G8 := Lib.hid g8
  clear h8 g8 k8 hA H7 B7
  go_wp2_with fail
  refine (readA x1 f8 b8 _ C8 _ _ _ [97] xb H8.out G8.out (by omega) ⟨#[97]⟩ rfl (by decide)).mono ?_
  rintro e x2 ⟨v9, rfl, h9, k9⟩
  obtain ⟨a9, c9, rfl, _, _⟩ := h9.reads.shape
  have B9 := Lib.hid (B8.out.trans (k9.mono B8.out.size))
  have R9 := Lib.hid h9
  clear h9 k9 B8 H8 G8
  go_wp2_with fail
  refine (same_any x2 _ _ xb xb R9.out.reads (HB.out.old B9.out (Nat.le_refl _))).mono ?_
  rintro e x3 ⟨rfl, n3, rfl⟩
  go_wp2_with fail
  go_ret
  exact ⟨rfl, below_drewN B9.out _⟩

set_option maxRecDepth 100000 in
set_option maxHeartbeats 1000000 in
theorem renames_big (W : World) (a0 a1 : Option Addr) (c0 c1 n0 n1 : Nat) (keep : Int) (h0 : n0 ≤ c0) (h0' : c0 ≤ 9223372036854775807) (h1 : n1 ≤ c1) (h1' : c1 ≤ 9223372036854775807) (hbig : 3000 < n0 ∨ 3000 < n1) :
    Calls Try.prog 7 #[.slice a0 n0 c0, .slice a1 n1 c1, .int .i64 keep] W fun e w' => e = .returned (.bool true) ∧ Below W.heap.size W w' := by
  by_cases hb : 3000 < n0
  · clear hbig
    go_enter Try.func7, Try.ntmps7
    go_wp2_with fail
    refine (awake12_yes W).mono ?_
    rintro e w0 ⟨rfl, hb0⟩
    go_wp2_with fail
    go_ret
    exact ⟨rfl, hb0⟩
  · have hb' : 3000 < n1 := by omega
    clear hbig
    go_enter Try.func7, Try.ntmps7
    go_wp2_with fail
    refine (awake12_yes W).mono ?_
    rintro e w0 ⟨rfl, hb0⟩
    go_wp2_with fail
    go_ret
    exact ⟨rfl, hb0⟩
theorem renames_yes (W : World) (v0 v1 : Value) (xa xb : List UInt8) (h0 : Bytes W v0 xa) (h1 : Bytes W v1 xb) (keep : Int) (hk1 : -9223372036854775808 ≤ keep) (hk2 : keep ≤ 9223372036854775807) :
    Calls Try.prog 7 #[v0, v1, .int .i64 keep] W fun e w' => e = .returned (.bool true) ∧ Below W.heap.size W w' := by
  by_cases hbig : 3000 < xa.length ∨ 3000 < xb.length
  · obtain ⟨a0, c0, rfl, hc0, hm0⟩ := h0.shape
    obtain ⟨a1, c1, rfl, hc1, hm1⟩ := h1.shape
    exact renames_big W a0 a1 c0 c1 _ _ keep hc0 hm0 hc1 hm1 hbig
  · obtain ⟨n, hn, hb⟩ := and3 keep
    obtain rfl | rfl | rfl | rfl : n = 0 ∨ n = 1 ∨ n = 2 ∨ n = 3 := by omega
    · exact renames_0 W v0 v1 xa xb h0 h1 (by omega) (by omega) keep hk1 hk2 hb
    · exact renames_1 W v0 v1 xa xb h0 h1 (by omega) (by omega) keep hk1 hk2 hb
    · exact renames_2 W v0 v1 xa xb h0 h1 (by omega) (by omega) keep hk1 hk2 hb
    · exact renames_3 W v0 v1 xa xb h0 h1 (by omega) (by omega) keep hk1 hk2 hb
end Go.Proofs.Ytpnlcogbahjnoaa.F
