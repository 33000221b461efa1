/- A deed of chapter 12 done to two disks, one of which dies. Conditions stand at each theorem. -/
import Derived.Test.YtpnlcogbahjnoaaTrunc
import Derived.Test.YtpnlcogbahjnoaaFRoom
namespace Go.Proofs.Ytpnlcogbahjnoaa.F
open Go.RowKit Go.Proofs.Ytpnlcogbahjnoaa.M
set_option linter.unusedVariables false
set_option linter.unusedSectionVars false

set_option maxRecDepth 100000 in
set_option maxHeartbeats 2000000 in
theorem sync_none (w : World) (f b m : Nat) (C : Disk) (steps fuse : Int) (h : Files w f b m C steps fuse false) (s : ByteArray) (hs : s.size ≤ maxLen) (hc : C s.data.toList = none) :
    Calls Try.prog 30 #[.pointer (some ⟨f, 0, none⟩), .string s] w fun e w' => e = .returned (.int .i64 8) ∧ Below w.heap.size w w' := by
  have HF := Lib.hid h
  clear h
  go_enter Try.func30, Try.ntmps30
  go_wp2_with fail
  obtain ⟨hA, b0, b1⟩ := two_boxes w (.pointer (some ⟨f, 0, none⟩)) (.string s) 39 9
  generalize (w.alloc (.cells #[.pointer (some ⟨f, 0, none⟩)] 39)).alloc (.cells #[.string s] 9) = w2 at *
  refine (does_none w2 f b m C steps fuse (HF.out.below hA) s hs hc _ _).mono ?_
  rintro e w5 ⟨rfl, F5⟩
  clear b0 b1
  go_wp2_with fail
  go_ret
  exact ⟨rfl, hA.trans (F5.mono hA.size)⟩
set_option maxRecDepth 100000 in
set_option maxHeartbeats 2000000 in
theorem remove_none (w : World) (f b m : Nat) (C : Disk) (steps fuse : Int) (h : Files w f b m C steps fuse false) (s : ByteArray) (hs : s.size ≤ maxLen) (hc : C s.data.toList = none) :
    Calls Try.prog 38 #[.pointer (some ⟨f, 0, none⟩), .string s] w fun e w' => e = .returned (.int .i64 8) ∧ Below w.heap.size w w' := by
  have HF := Lib.hid h
  clear h
  go_enter Try.func38, Try.ntmps38
  go_wp2_with fail
  obtain ⟨hA, b0, b1⟩ := two_boxes w (.pointer (some ⟨f, 0, none⟩)) (.string s) 39 9
  generalize (w.alloc (.cells #[.pointer (some ⟨f, 0, none⟩)] 39)).alloc (.cells #[.string s] 9) = w2 at *
  refine (does_none w2 f b m C steps fuse (HF.out.below hA) s hs hc _ _).mono ?_
  rintro e w5 ⟨rfl, F5⟩
  clear b0 b1
  go_wp2_with fail
  go_ret
  exact ⟨rfl, hA.trans (F5.mono hA.size)⟩
set_option maxRecDepth 100000 in
set_option maxHeartbeats 2000000 in
theorem rename_none (w : World) (f b m : Nat) (C : Disk) (steps fuse : Int) (h : Files w f b m C steps fuse false) (s : ByteArray) (hs : s.size ≤ maxLen) (t : ByteArray) (hc : C s.data.toList = none) :
    Calls Try.prog 34 #[.pointer (some ⟨f, 0, none⟩), .string s, .string t] w fun e w' => e = .returned (.int .i64 8) ∧ Below w.heap.size w w' := by
  have HF := Lib.hid h
  clear h
  go_enter Try.func34, Try.ntmps34
  go_wp2_with fail
  obtain ⟨hA, b0, b1, b2⟩ := three_boxes w (.pointer (some ⟨f, 0, none⟩)) (.string s) (.string t) 39 9 9
  generalize (((w.alloc (.cells #[.pointer (some ⟨f, 0, none⟩)] 39)).alloc (.cells #[.string s] 9)).alloc (.cells #[.string t] 9)) = w2 at *
  refine (does_none w2 f b m C steps fuse (HF.out.below hA) s hs hc _ _).mono ?_
  rintro e w5 ⟨rfl, F5⟩
  clear b0 b1 b2
  go_wp2_with fail
  go_ret
  exact ⟨rfl, hA.trans (F5.mono hA.size)⟩
set_option maxRecDepth 100000 in
set_option maxHeartbeats 2000000 in
theorem truncate_none (w : World) (f b m : Nat) (C : Disk) (steps fuse : Int) (h : Files w f b m C steps fuse false) (s : ByteArray) (hs : s.size ≤ maxLen) (n : Int) (hc : C s.data.toList = none) :
    Calls Try.prog 24 #[.pointer (some ⟨f, 0, none⟩), .string s, .int .i64 n] w fun e w' => e = .returned (.int .i64 8) ∧ Below w.heap.size w w' := by
  have HF := Lib.hid h
  clear h
  go_enter Try.func24, Try.ntmps24
  go_wp2_with fail
  obtain ⟨hA, b0, b1, b2⟩ := three_boxes w (.pointer (some ⟨f, 0, none⟩)) (.string s) (.int .i64 n) 39 9 3
  generalize (((w.alloc (.cells #[.pointer (some ⟨f, 0, none⟩)] 39)).alloc (.cells #[.string s] 9)).alloc (.cells #[.int .i64 n] 3)) = w2 at *
  refine (does_none w2 f b m C steps fuse (HF.out.below hA) s hs hc _ _).mono ?_
  rintro e w5 ⟨rfl, F5⟩
  clear b0 b1 b2
  go_wp2_with fail
  go_ret
  exact ⟨rfl, hA.trans (F5.mono hA.size)⟩

/-- what a deed comes to: it is refused, or the disk is another one -/
inductive Eff where
  | no (c : Int)
  | go (C : Disk)
def Did (w w' : World) (f b m : Nat) (st fu : Int) (e : Int) : Eff → Prop
  | .no c => e = c ∧ Below w.heap.size w w'
  | .go C' => e = stepE fu ∧ (∃ D, Files w' f b (m + 1) D (st + 1) (stepF fu) (decide (fu = 0)) ∧ (fu ≠ 0 → D = C')) ∧ Fr (fun k => k = f ∨ k = b) w w'
def EffOk (L : Nat) : Eff → Prop
  | .no _ => True
  | .go C' => ∀ k, (cb C' k).length ≤ L
def Does1 (W : World) (K : FuncId) (A : Nat → Array Value) (C : Disk) (E : Eff) : Prop := ∀ (w : World) (f b m : Nat) (st fu : Int), Below W.heap.size W w → Files w f b m C st fu false → m ≤ 1000 → 0 ≤ st → st ≤ 1000 → fu ≤ 1000 →
  Calls Try.prog K (A f) w fun e w' => ∃ e1 : Int, e = .returned (.int .i64 e1) ∧ Did w w' f b m st fu e1 E

theorem did_go {w w' : World} {f b m : Nat} {C C' : Disk} {st fu : Int} (h : Files w' f b (m + 1) (ifz fu C C') (st + 1) (stepF fu) (decide (fu = 0))) (hf : Fr (fun k => k = f ∨ k = b) w w') : Did w w' f b m st fu (stepE fu) (.go C') :=
  ⟨rfl, ⟨_, h, fun h0 => if_neg h0⟩, hf⟩

theorem holds_le {w : World} {f b m : Nat} {C : Disk} {st fu : Int} {dead : Bool} (h : Files w f b m C st fu dead) (k : List UInt8) (bs : List UInt8) (l : Nat) (hc : C k = some (bs, l)) : l ≤ bs.length := by
  obtain ⟨D, _, hH⟩ := h.map
  exact ((hH k).2 bs l hc).2.1
theorem upd_lens {C : Disk} {L : Nat} (h : ∀ k, (cb C k).length ≤ L) (k : List UInt8) (bs : List UInt8) (l : Nat) (hb : bs.length ≤ L) : ∀ k', (cb (upd C k (some (bs, l))) k').length ≤ L := fun k' => by
  by_cases hk : k' = k
  · subst hk; simpa [cb, upd] using hb
  · have : cb (upd C k (some (bs, l))) k' = cb C k' := by simp [cb, upd, hk]
    rw [this]; exact h k'
theorem upd_none_lens {C : Disk} {L : Nat} (h : ∀ k, (cb C k).length ≤ L) (k : List UInt8) : ∀ k', (cb (upd C k none) k').length ≤ L := fun k' => by
  by_cases hk : k' = k
  · subst hk; simp [cb, upd]
  · have : cb (upd C k none) k' = cb C k' := by simp [cb, upd, hk]
    rw [this]; exact h k'
theorem cb_some {C : Disk} {k : List UInt8} {bs : List UInt8} {l : Nat} (h : C k = some (bs, l)) : cb C k = bs := by simp [cb, h]

section
variable (W : World) (C : Disk) (s : ByteArray) (hs : s.size ≤ maxLen) (L : Nat) (hL : ∀ k, (cb C k).length ≤ L) (hL2 : L ≤ 1000000)
include hs hL hL2
theorem app_both (v : Value) (bs : List UInt8) (hv : Bytes W v bs) (hb : bs.length ≤ 500) : ∃ E, EffOk (L + 500) E ∧ Does1 W 29 (fun f => #[.pointer (some ⟨f, 0, none⟩), .string s, v]) C E := by
  cases hn : named s.data.toList with
  | false => exact ⟨.no 1, trivial, fun w f b m st fu hw hF h1 h2 h3 h4 => (append_bad w f b m C st fu hF s hs hn v).mono fun e w' ⟨he, hw'⟩ => ⟨1, he, rfl, hw' ▸ Below.refl _ _⟩⟩
  | true =>
    have hl := hL s.data.toList
    exact ⟨.go (upd C s.data.toList (some (cb C s.data.toList ++ bs, cl C s.data.toList))), upd_lens (fun k => Nat.le_trans (hL k) (by omega)) _ _ _ (by simp; omega),
      fun w f b m st fu hw hF h1 h2 h3 h4 => (append_ok w f b m C st fu hF s hn v bs (hv.old hw (Nat.le_refl _)) (by omega) (by omega) h2 (by omega) (by omega)).mono fun e w' ⟨he, hF', hf⟩ => ⟨_, he, rfl, ⟨_, hF', fun _ => rfl⟩, hf⟩⟩
theorem syn_both : ∃ E, EffOk (L + 500) E ∧ Does1 W 30 (fun f => #[.pointer (some ⟨f, 0, none⟩), .string s]) C E := by
  cases hc : C s.data.toList with
  | none => exact ⟨.no 8, trivial, fun w f b m st fu hw hF h1 h2 h3 h4 => (sync_none w f b m C st fu hF s hs hc).mono fun e w' ⟨he, hw'⟩ => ⟨8, he, rfl, hw'⟩⟩
  | some x =>
    obtain ⟨bs, l⟩ := x
    have hl := hL s.data.toList
    rw [cb_some hc] at hl
    exact ⟨.go (upd C s.data.toList (some (bs, bs.length))), upd_lens (fun k => Nat.le_trans (hL k) (by omega)) _ _ _ (by omega),
      fun w f b m st fu hw hF h1 h2 h3 h4 => (sync_ok w f b m C st fu hF s hs bs l hc (by omega) h2 (by omega) (by omega)).mono fun e w' ⟨he, hF', hf⟩ => ⟨_, he, did_go hF' hf⟩⟩
theorem tru_both (n : Int) : ∃ E, EffOk (L + 500) E ∧ Does1 W 24 (fun f => #[.pointer (some ⟨f, 0, none⟩), .string s, .int .i64 n]) C E := by
  cases hc : C s.data.toList with
  | none => exact ⟨.no 8, trivial, fun w f b m st fu hw hF h1 h2 h3 h4 => (truncate_none w f b m C st fu hF s hs n hc).mono fun e w' ⟨he, hw'⟩ => ⟨8, he, rfl, hw'⟩⟩
  | some x =>
    obtain ⟨bs, l⟩ := x
    have hl := hL s.data.toList
    rw [cb_some hc] at hl
    cases hm : mayCut n bs with
    | false => exact ⟨.no 1, trivial, fun w f b m st fu hw hF h1 h2 h3 h4 => (truncate_no w f b m C st fu hF s hs n bs l hm hc).mono fun e w' ⟨he, hw'⟩ => ⟨1, he, rfl, hw'⟩⟩
    | true =>
      have hm' := of_decide_eq_true hm
      obtain ⟨n', rfl⟩ : ∃ n' : Nat, n = n' := ⟨n.toNat, by omega⟩
      exact ⟨.go (upd C s.data.toList (some (bs.take n', min l n'))), upd_lens (fun k => Nat.le_trans (hL k) (by omega)) _ _ _ (by simp; omega),
        fun w f b m st fu hw hF h1 h2 h3 h4 => (truncate_ok w f b m C st fu hF s hs n' bs l (holds_le hF _ _ _ hc) (by omega) (by omega) hc (by omega) h2 (by omega) (by omega)).mono fun e w' ⟨he, hF', hf⟩ => ⟨_, he, did_go hF' hf⟩⟩
theorem ren_both (t : ByteArray) (ht : t.size ≤ maxLen) : ∃ E, EffOk (L + 500) E ∧ Does1 W 34 (fun f => #[.pointer (some ⟨f, 0, none⟩), .string s, .string t]) C E := by
  cases hc : C s.data.toList with
  | none => exact ⟨.no 8, trivial, fun w f b m st fu hw hF h1 h2 h3 h4 => (rename_none w f b m C st fu hF s hs t hc).mono fun e w' ⟨he, hw'⟩ => ⟨8, he, rfl, hw'⟩⟩
  | some x =>
    obtain ⟨bs, l⟩ := x
    have hl := hL s.data.toList
    rw [cb_some hc] at hl
    cases hm : named t.data.toList with
    | false => exact ⟨.no 1, trivial, fun w f b m st fu hw hF h1 h2 h3 h4 => (rename_no w f b m C st fu hF s hs t ht hm bs l hc).mono fun e w' ⟨he, hw'⟩ => ⟨1, he, rfl, hw'⟩⟩
    | true =>
      exact ⟨.go (upd (upd C s.data.toList none) t.data.toList (some (bs, l))), upd_lens (upd_none_lens (fun k => Nat.le_trans (hL k) (by omega)) _) _ _ _ (by omega),
        fun w f b m st fu hw hF h1 h2 h3 h4 => (rename_ok w f b m C st fu hF s hs t ht hm bs l (holds_le hF _ _ _ hc) hc (by omega) h2 (by omega) (by omega)).mono fun e w' ⟨he, hF', hf⟩ => ⟨_, he, did_go hF' hf⟩⟩
theorem rem_both : ∃ E, EffOk (L + 500) E ∧ Does1 W 38 (fun f => #[.pointer (some ⟨f, 0, none⟩), .string s]) C E := by
  cases hc : C s.data.toList with
  | none => exact ⟨.no 8, trivial, fun w f b m st fu hw hF h1 h2 h3 h4 => (remove_none w f b m C st fu hF s hs hc).mono fun e w' ⟨he, hw'⟩ => ⟨8, he, rfl, hw'⟩⟩
  | some x =>
    obtain ⟨bs, l⟩ := x
    exact ⟨.go (upd C s.data.toList none), upd_none_lens (fun k => Nat.le_trans (hL k) (by omega)) _,
      fun w f b m st fu hw hF h1 h2 h3 h4 => (remove_ok w f b m C st fu hF s hs bs l hc h2 (by omega) (by omega)).mono fun e w' ⟨he, hF', hf⟩ => ⟨_, he, did_go (hF'.mono (by omega)) hf⟩⟩
end

/-- two disks, the first of which dies behind n steps; i deeds were done -/
structure J (W w : World) (f b g b' : Nat) (i : Nat) (n : Int) (C : Disk) (m m' : Nat) (st : Int) : Prop where
  low : Below W.heap.size W w
  fN : W.heap.size ≤ f
  bN : W.heap.size ≤ b
  gN : W.heap.size ≤ g
  b'N : W.heap.size ≤ b'
  ne : f ≠ g
  ne' : b ≠ b'
  ff : Files w f b m C st (n - st) false
  gg : Files w g b' m' C st (-1) false
  s0 : 0 ≤ st
  s1 : st ≤ n
  n1 : n ≤ 63
  m1 : m ≤ i
  m2 : m' ≤ i
  len : ∀ k, (cb C k).length ≤ 500 * i
theorem J.quiet {W w w' : World} {f b g b' i : Nat} {n : Int} {C : Disk} {m m' : Nat} {st : Int} (h : J W w f b g b' i n C m m' st) (hf : Below w.heap.size w w') : J W w' f b g b' i n C m m' st :=
  { h with low := h.low.trans (hf.mono h.low.size), ff := h.ff.below hf, gg := h.gg.below hf }
theorem J.next {W w : World} {f b g b' i : Nat} {n : Int} {C : Disk} {m m' : Nat} {st : Int} (h : J W w f b g b' i n C m m' st) : J W w f b g b' (i + 1) n C m m' st :=
  { h with m1 := Nat.le_succ_of_le h.m1, m2 := Nat.le_succ_of_le h.m2, len := fun k => Nat.le_trans (h.len k) (by omega) }
def Dies (W w : World) (f b : Nat) (n : Int) : Prop := Below W.heap.size W w ∧ ∃ m C fu, Files w f b m C (n + 1) fu true
def Out (W w : World) (f b g b' : Nat) (i : Nat) (n st : Int) (e1 e2 : Int) : Prop := (e1 = e2 ∧ ∃ C m m' st', J W w f b g b' i n C m m' st') ∨ (e1 = 7 ∧ st = n ∧ Dies W w f b n)
/-- block z is a deed -/
def Zat (w : World) (z : Nat) (x : FDeed) : Prop := w.heap[z]? = some (.cells x.cells.toArray 62 (0, 0))
theorem Zat.fr {w w' : World} {z : Nat} {x : FDeed} (h : Zat w z x) {f b m : Nat} {C : Disk} {st fu : Int} {dead : Bool} (hF : Files w f b m C st fu dead) (hf : Fr (fun k => k = f ∨ k = b) w w') : Zat w' z x := by
  refine hf.obj h ?_
  rintro (rfl | rfl)
  · exact tag_ne (w := w) ⟨_, _, h⟩ hF.tag (by decide) rfl
  · exact hF.not_tag _ ⟨_, _, h⟩
theorem Zat.below {w w' : World} {z : Nat} {x : FDeed} (h : Zat w z x) (hb : Below w.heap.size w w') : Zat w' z x := (hb.block z (lt_of_obj h)).trans h

theorem joint {W w : World} {f b g b' i : Nat} {n : Int} {C : Disk} {m m' : Nat} {st : Int} {K : FuncId} {A : Nat → Array Value} {E : Eff} {z : Nat} {x : FDeed} (hJ : J W w f b g b' i n C m m' st) (hi : i ≤ 200) (h : Does1 W K A C E) (hE : EffOk (500 * i + 500) E) (hz : Zat w z x) :
    Calls Try.prog K (A f) w fun e w1 => ∃ e1 : Int, e = .returned (.int .i64 e1) ∧ Zat w1 z x ∧ Hid (Calls Try.prog K (A g) w1 fun e w2 => ∃ e2 : Int, e = .returned (.int .i64 e2) ∧ Zat w2 z x ∧ Hid (Out W w2 f b g b' (i + 1) n st e1 e2)) := by
  have h1 := hJ.m1
  have h2 := hJ.m2
  have h3 := hJ.s0
  have h4 := hJ.s1
  have h5 := hJ.n1
  refine (h w f b m st (n - st) hJ.low hJ.ff (by omega) h3 (by omega) (by omega)).mono ?_
  rintro e w1 ⟨e1, rfl, hd⟩
  cases E with
  | no c =>
    obtain ⟨rfl, hb⟩ := hd
    have hJ1 := hJ.quiet hb
    refine ⟨_, rfl, hz.below hb, (h w1 g b' m' st (-1) hJ1.low hJ1.gg (by omega) h3 (by omega) (by omega)).mono ?_⟩
    rintro e w2 ⟨e2, rfl, rfl, hb2⟩
    exact ⟨_, rfl, (hz.below hb).below hb2, .inl ⟨rfl, _, _, _, _, (hJ1.quiet hb2).next⟩⟩
  | go C' =>
    obtain ⟨rfl, ⟨D, hF, hD⟩, hf⟩ := hd
    have hlow : Below W.heap.size W w1 := hJ.low.trans (hf.below hJ.low.size (by rintro k (rfl | rfl); exact hJ.fN; exact hJ.bN))
    have hgg : Files w1 g b' m' C st (-1) false := hJ.gg.fr hf (by rintro (h | h); exact hJ.ne h.symm; exact hJ.ff.not_tag _ (h ▸ hJ.gg.tag)) (by rintro (h | h); exact hJ.gg.not_tag _ (h ▸ hJ.ff.tag); exact hJ.ne' h.symm)
      (by rintro k (rfl | rfl); exact Tag.not hJ.ff.at_ (by decide); exact hJ.ff.not_tag _)
    have hz1 := hz.fr hJ.ff hf
    refine ⟨_, rfl, hz1, (h w1 g b' m' st (-1) hlow hgg (by omega) h3 (by omega) (by omega)).mono ?_⟩
    rintro e w2 ⟨e2, rfl, rfl, ⟨D2, hG, hD2⟩, hg⟩
    have hD2 := hD2 (by decide)
    subst hD2
    refine ⟨_, rfl, hz1.fr hgg hg, ?_⟩
    have hlow2 : Below W.heap.size W w2 := hlow.trans (hg.below hlow.size (by rintro k (rfl | rfl); exact hJ.gN; exact hJ.b'N))
    have hF2 := hF.fr hg (by rintro (h | h); exact hJ.ne h; exact hgg.not_tag _ (h ▸ hF.tag)) (by rintro (h | h); exact hF.not_tag _ (h ▸ hgg.tag); exact hJ.ne' h)
      (by rintro k (rfl | rfl); exact Tag.not hgg.at_ (by decide); exact hgg.not_tag _)
    by_cases hn : n - st = 0
    · rw [hn] at hF2 ⊢
      have e1 : st + 1 = n + 1 := by omega
      rw [e1] at hF2
      exact .inr ⟨rfl, by omega, hlow2, _, _, _, hF2⟩
    · have hD := hD hn
      subst hD
      have e1 : stepE (n - st) = 0 := if_neg hn
      have e2 : stepF (n - st) = n - (st + 1) := by rw [stepF, if_pos (by omega)]; omega
      have e3 : decide (n - st = 0) = false := decide_eq_false hn
      have e4 : stepF (-1) = -1 := rfl
      have e5 : decide ((-1 : Int) = 0) = false := rfl
      rw [e2, e3] at hF2
      rw [e4, e5] at hG
      rw [e1]
      refine .inl ⟨rfl, D, m + 1, m' + 1, st + 1, ⟨hlow2, hJ.fN, hJ.bN, hJ.gN, hJ.b'N, hJ.ne, hJ.ne', hF2, hG, by omega, by omega, h5, by omega, by omega, fun k => Nat.le_trans (hE k) (by omega)⟩⟩
end Go.Proofs.Ytpnlcogbahjnoaa.F
