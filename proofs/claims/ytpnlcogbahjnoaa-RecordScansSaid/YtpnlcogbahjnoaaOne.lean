/- A disk with one file; chapter 12's 'awake'. Conditions stand at each theorem. -/
import Derived.Test.YtpnlcogbahjnoaaCrash
import Derived.Test.YtpnlcogbahjnoaaRef1
namespace Go.Proofs.Ytpnlcogbahjnoaa.F
open Go.RowKit Go.Proofs.Ytpnlcogbahjnoaa.M
set_option linter.unusedVariables false

def one (k : List UInt8) (bs : List UInt8) (l : Nat) : Disk := fun k' => if k' = k then some (bs, l) else none
theorem one_cb (k bs : List UInt8) (l : Nat) : cb (one k bs l) k = bs := by simp [cb, one]
theorem one_cl (k bs : List UInt8) (l : Nat) : cl (one k bs l) k = l := by simp [cl, one]
theorem one_at (k bs : List UInt8) (l : Nat) : one k bs l k = some (bs, l) := by simp [one]
theorem one_len (k bs : List UInt8) (l : Nat) (h : bs.length ≤ 1099511627776) : ∀ k', (cb (one k bs l) k').length ≤ 1099511627776 := by
  intro k'
  by_cases hk : k' = k
  · subst hk; rw [one_cb]; exact h
  · simp [cb, one, hk]
theorem upd_one (k bs bs' : List UInt8) (l l' : Nat) : upd (one k bs l) k (some (bs', l')) = one k bs' l' := by
  funext k'
  by_cases hk : k' = k <;> simp [upd, one, hk]
theorem upd_none (k bs' : List UInt8) (l' : Nat) : upd (fun _ => none) k (some (bs', l')) = one k bs' l' := by
  funext k'
  by_cases hk : k' = k <;> simp [upd, one, hk]
theorem crash_one (k bs : List UInt8) (l : Nat) (ss : List (List UInt8)) (ks : List Int) (h1 : ∀ x, x ∈ ss ↔ (one k bs l x).isSome = true) (h2 : ss.Nodup) :
    crashD (one k bs l) ss ks = one k (bs.take (l + cutN ks 0 bs l)) (l + cutN ks 0 bs l) := by
  have hs : ss = [k] := by
    have hall : ∀ x ∈ ss, x = k := fun x hx => by
      have := (h1 x).1 hx
      by_cases hk : x = k
      · exact hk
      · simp [one, hk] at this
    have hk : k ∈ ss := (h1 k).2 (by simp [one])
    cases ss with
    | nil => simp at hk
    | cons a r =>
      have ha := hall a (by simp)
      subst ha
      cases r with
      | nil => rfl
      | cons c r =>
        have hc := hall c (by simp)
        subst hc
        simp at h2
  subst hs
  funext k'
  by_cases hk : k' = k
  · subst hk; simp [crashD, one]
  · simp [crashD, one, hk]

theorem app0 (w : World) (f b m : Nat) (st : Int) (h : Files w f b m (fun _ => none) st (-1) false) (s : ByteArray) (k : List UInt8) (hk : s.data.toList = k) (hn : named k = true) (v : Value) (cs : List UInt8) (hv : Bytes w v cs) (hl : cs.length ≤ 1099511627776)
    (hm : m ≤ 1099511627776) (h1 : 0 ≤ st) (h2 : st ≤ 1099511627776) :
    Calls Try.prog 29 #[.pointer (some ⟨f, 0, none⟩), .string s, v] w fun e w' => e = .returned (.int .i64 0) ∧ Files w' f b (m + 1) (one k cs 0) (st + 1) (-1) false ∧ Fr (fun k => k = f ∨ k = b) w w' := by
  subst hk
  refine (append_ok w f b m _ st (-1) h s hn v cs hv (by simpa [cb] using hl) hm h1 h2 (by omega)).mono ?_
  rintro e w' ⟨rfl, hF, hG⟩
  have e1 : cb (fun _ => none) s.data.toList = [] := rfl
  have e2 : cl (fun _ => none) s.data.toList = 0 := rfl
  rw [e1, e2, List.nil_append, upd_none] at hF
  exact ⟨rfl, hF, hG⟩
theorem app1 (w : World) (f b m : Nat) (st : Int) (k bs : List UInt8) (l : Nat) (h : Files w f b m (one k bs l) st (-1) false) (s : ByteArray) (hk : s.data.toList = k) (hn : named k = true) (v : Value) (cs : List UInt8) (hv : Bytes w v cs) (hl : bs.length + cs.length ≤ 1099511627776)
    (hm : m ≤ 1099511627776) (h1 : 0 ≤ st) (h2 : st ≤ 1099511627776) :
    Calls Try.prog 29 #[.pointer (some ⟨f, 0, none⟩), .string s, v] w fun e w' => e = .returned (.int .i64 0) ∧ Files w' f b (m + 1) (one k (bs ++ cs) l) (st + 1) (-1) false ∧ Fr (fun k => k = f ∨ k = b) w w' := by
  subst hk
  refine (append_ok w f b m _ st (-1) h s hn v cs hv (by rw [one_cb]; exact hl) hm h1 h2 (by omega)).mono ?_
  rintro e w' ⟨rfl, hF, hG⟩
  rw [one_cb, one_cl, upd_one] at hF
  exact ⟨rfl, hF, hG⟩
theorem syn1 (w : World) (f b m : Nat) (st : Int) (k bs : List UInt8) (l : Nat) (h : Files w f b m (one k bs l) st (-1) false) (s : ByteArray) (hk : s.data.toList = k) (hn : named k = true) 
    (hm : m ≤ 1099511627776) (h1 : 0 ≤ st) (h2 : st ≤ 1099511627776) :
    Calls Try.prog 30 #[.pointer (some ⟨f, 0, none⟩), .string s] w fun e w' => e = .returned (.int .i64 0) ∧ Files w' f b (m + 1) (one k bs bs.length) (st + 1) (-1) false ∧ Fr (fun k => k = f ∨ k = b) w w' := by
  subst hk
  have hs : s.size ≤ maxLen := by
    have : s.data.toList.length ≤ 24 := by simp [named] at hn ⊢; omega
    simp at this
    simp only [maxLen]; omega
  refine (sync_ok w f b m _ st (-1) h s hs bs l (one_at _ _ _) hm h1 h2 (by omega)).mono ?_
  rintro e w' ⟨rfl, hF, hG⟩
  have e1 : ifz (-1) (one s.data.toList bs l) (upd (one s.data.toList bs l) s.data.toList (some (bs, bs.length))) = one s.data.toList bs bs.length := by
    rw [upd_one]; rfl
  rw [e1] at hF
  exact ⟨rfl, hF, hG⟩
theorem crash1 (w : World) (f b m : Nat) (st fu : Int) (dead : Bool) (k bs : List UInt8) (l : Nat) (h : Files w f b m (one k bs l) st fu dead) (hl : bs.length ≤ 1099511627776) (hm : m ≤ 1099511627776)
    (kv : Value) (ks : List Int) (hkv : Reads w 1 kv ks.length (ks.map (.int .i64))) (hks : ∀ x ∈ ks, -9223372036854775808 ≤ x ∧ x ≤ 9223372036854775807) :
    Calls Try.prog 31 #[.pointer (some ⟨f, 0, none⟩), kv] w fun e w' => ∃ f' b', e = .returned (.pointer (some ⟨f', 0, none⟩)) ∧ w.heap.size ≤ f' ∧ w.heap.size ≤ b' ∧
      Files w' f' b' m (one k (bs.take (l + cutN ks 0 bs l)) (l + cutN ks 0 bs l)) 0 (-1) false ∧ Below w.heap.size w w' := by
  refine (crash_any w f b m _ st fu dead h hm (one_len _ _ _ hl) kv ks hkv hks).mono ?_
  rintro e w' ⟨f', b', ss, rfl, h1, h2, h3, h4, h5, h6⟩
  rw [crash_one k bs l ss ks h3 h4] at h5
  exact ⟨f', b', rfl, h1, h2, h5, h6⟩
theorem read1 (w : World) (f b m : Nat) (st fu : Int) (dead : Bool) (k bs : List UInt8) (l : Nat) (h : Files w f b m (one k bs l) st fu dead) (hl : bs.length ≤ 1099511627776) (s : ByteArray) (hk : s.data.toList = k) (hs : s.size ≤ maxLen) :
    Calls Try.prog 23 #[.pointer (some ⟨f, 0, none⟩), .string s] w fun e w' => ∃ v', e = .returned (.tuple #[v', .bool true]) ∧ OwnZ w' w.heap.size 5 1 v' bs.length (bs.map u8) ∧ Below w.heap.size w w' := by
  subst hk
  refine (read_any w f b m _ st fu dead h s hs (by rw [one_cb]; exact hl)).mono ?_
  rintro e w' ⟨v', rfl, h1, h2⟩
  rw [one_cb] at h1
  exact ⟨v', by simp [one], h1, h2⟩

theorem ints_lit {w : World} {g : Nat} {t : TypeId} {fz : Nat × Nat} {cur : Array Value} (ks : List Int) (h : w.heap[g]? = some (.cells cur t fz)) (hc : cur = (ks.map (.int .i64)).toArray) (hl : ks.length ≤ 1099511627776) :
    Reads w 1 (.slice (some ⟨g, 0, none⟩) ks.length ks.length) ks.length (ks.map (.int .i64)) := by
  subst hc
  refine ⟨by simp, .inr ⟨⟨g, 0, none⟩, ks.length, rfl, Nat.le_refl _, by simp only [maxLen]; omega, fun j u hj => ⟨rfl, ?_⟩⟩⟩
  rw [cell_at h, Nat.zero_add]
  simpa using hj

set_option maxRecDepth 100000 in
set_option maxHeartbeats 4000000 in
theorem awake12_yes (w : World) :
    Calls Try.prog 28 #[] w fun e w' => e = .returned (.bool true) ∧ Below w.heap.size w w' := by
  go_enter Try.func28, Try.ntmps28
  go_wp2_with fail
  refine (new_any w).mono ?_
  rintro e w1 ⟨f, b, rfl, hf, hb, h1, hb1⟩
  have H1 := Lib.hid h1
  have B1 := Lib.hid hb1
  clear h1 hb1
  go_wp2_with fail
  have hA : Below w1.heap.size w1 (w1.alloc (.cells #[.int .u8 1, .int .u8 2] 5)) := (Below.refl _ _).alloc (Nat.le_refl _) _
  refine (app0 _ f b 0 0 (H1.out.below hA) ⟨#[97]⟩ [97] rfl rfl _ [1, 2] (Bytes.lit [1, 2] (heap_alloc_new w1 _) rfl (by decide)) (by decide) (by omega) (by omega) (by omega)).mono ?_
  rintro e w2 ⟨rfl, h2, f2⟩
  have B2 := Lib.hid ((B1.out.trans (hA.mono B1.out.size)).trans (f2.below (Nat.le_trans B1.out.size hA.size) (by rintro x (rfl | rfl) <;> assumption)))
  have H2 := Lib.hid h2
  clear h2 f2 hA H1 B1
  go_wp2_with fail
  refine (syn1 w2 f b _ _ [97] [1, 2] 0 H2.out ⟨#[97]⟩ rfl rfl (by omega) (by omega) (by omega)).mono ?_
  rintro e w3 ⟨rfl, h3, f3⟩
  have B3 := Lib.hid (B2.out.trans (f3.below B2.out.size (by rintro x (rfl | rfl) <;> assumption)))
  have H3 := Lib.hid h3
  clear h3 f3 H2 B2
  go_wp2_with fail
  have hA : Below w3.heap.size w3 (w3.alloc (.cells #[.int .u8 3, .int .u8 4] 5)) := (Below.refl _ _).alloc (Nat.le_refl _) _
  refine (app1 _ f b _ _ [97] [1, 2] _ (H3.out.below hA) ⟨#[97]⟩ rfl rfl _ [3, 4] (Bytes.lit [3, 4] (heap_alloc_new w3 _) rfl (by decide)) (by decide) (by omega) (by omega) (by omega)).mono ?_
  rintro e w4 ⟨rfl, h4, f4⟩
  have B4 := Lib.hid ((B3.out.trans (hA.mono B3.out.size)).trans (f4.below (Nat.le_trans B3.out.size hA.size) (by rintro x (rfl | rfl) <;> assumption)))
  have H4 := Lib.hid h4
  clear h4 f4 hA H3 B3
  go_wp2_with fail
  have hA : Below w4.heap.size w4 (w4.alloc (.cells #[.int .i64 1] 3)) := (Below.refl _ _).alloc (Nat.le_refl _) _
  refine (crash1 _ f b _ _ _ _ [97] _ _ (H4.out.below hA) (by decide) (by omega) _ [1] (ints_lit [1] (heap_alloc_new w4 _) rfl (by decide)) (by decide)).mono ?_
  rintro e w5 ⟨f5, b5, rfl, hf5, hb5, h5, f5b⟩
  have B5 := Lib.hid ((B4.out.trans (hA.mono B4.out.size)).trans (f5b.mono (Nat.le_trans B4.out.size hA.size)))
  have H45 := Lib.hid ((H4.out.below hA).below f5b)
  have H5 := Lib.hid h5
  clear h5 f5b hA H4 B4
  go_wp2_with fail
  refine (read1 w5 f5 b5 _ _ _ _ [97] _ _ H5.out (by decide) ⟨#[97]⟩ rfl (by decide)).mono ?_
  rintro e w6 ⟨v6, rfl, h6, f6b⟩
  obtain ⟨a6, c6, rfl, _, _⟩ := h6.reads.shape
  have B6 := Lib.hid (B5.out.trans (f6b.mono B5.out.size))
  have H46 := Lib.hid (H45.out.below f6b)
  have R6 := Lib.hid h6
  clear h6 f6b H45 B5 H5
  go_wp2_with fail
  refine (crash1 w6 f b _ _ _ _ [97] _ _ H46.out (by decide) (by omega) _ [] (Reads.nil _ _) (by simp)).mono ?_
  rintro e w7 ⟨f7, b7, rfl, hf7, hb7, h7, f7b⟩
  have B7 := Lib.hid (B6.out.trans (f7b.mono B6.out.size))
  have R7 := Lib.hid (R6.out.reads.below f7b)
  have H7 := Lib.hid h7
  clear h7 f7b H46 B6 R6
  go_wp2_with fail
  refine (read1 w7 f7 b7 _ _ _ _ [97] _ _ H7.out (by decide) ⟨#[97]⟩ rfl (by decide)).mono ?_
  rintro e w8 ⟨v8, rfl, h8, f8b⟩
  obtain ⟨a8, c8, rfl, _, _⟩ := h8.reads.shape
  have B8 := Lib.hid (B7.out.trans (f8b.mono B7.out.size))
  have R78 := Lib.hid (R7.out.below f8b)
  have R8 := Lib.hid h8
  clear h8 f8b B7 R7 H7
  go_wp2_with fail
  have hA : Below w8.heap.size w8 (w8.alloc (.cells #[.int .u8 1, .int .u8 2, .int .u8 3] 5)) := (Below.refl _ _).alloc (Nat.le_refl _) _
  refine (same_any _ _ _ [1, 2, 3] [1, 2, 3] (R78.out.below hA) (Bytes.lit [1, 2, 3] (heap_alloc_new w8 _) rfl (by decide))).mono ?_
  rintro e w9 ⟨rfl, n9, rfl⟩
  have B9 := Lib.hid (B8.out.trans (hA.mono B8.out.size))
  have R89 := Lib.hid (R8.out.reads.below hA)
  clear hA B8 R8
  generalize w8.alloc (.cells #[.int .u8 1, .int .u8 2, .int .u8 3] 5) = w9 at *
  go_wp2_with fail
  have hA : Below (w9.drewN n9).heap.size (w9.drewN n9) ((w9.drewN n9).alloc (.cells #[.int .u8 1, .int .u8 2] 5)) := (Below.refl _ _).alloc (Nat.le_refl _) _
  refine (same_any _ _ _ [1, 2] [1, 2] (Reads.below (w := w9.drewN n9) R89.out hA) (Bytes.lit [1, 2] (heap_alloc_new (w9.drewN n9) _) rfl (by decide))).mono ?_
  rintro e w10 ⟨rfl, n10, rfl⟩
  have B10 := Lib.hid ((below_drewN B9.out n9).trans (hA.mono B9.out.size))
  go_wp2_with fail
  go_ret
  exact ⟨rfl, below_drewN B10.out _⟩
end Go.Proofs.Ytpnlcogbahjnoaa.F
