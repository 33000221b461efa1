/- A timer and the reference's timer, side by side: what one call of each does to both. Conditions stand at each theorem. -/
import Derived.Test.YtjfdpggbpmicnaaTimerRef
namespace Go.Proofs.Ytjfdpggbpmicnaa.T
open Go.RowKit Go.Proofs.Ytjfdpggbpmicnaa.M
set_option linter.unusedVariables false

theorem Tag.ne {w : World} {i j : Nat} {t t' : TypeId} (h : Tag w i t) (h' : Tag w j t') (hn : t ≠ t') : i ≠ j := by
  rintro rfl
  obtain ⟨c, f, h⟩ := h
  obtain ⟨c', f', h'⟩ := h'
  rw [h] at h'
  simp at h'
  exact hn h'.2.1
theorem RT.tag {w : World} {u : Nat} {sv : Value} {bs : List UInt8} (h : RT w u sv bs) : ∀ g, sv.ownBlock = some g → Tag w g 5 := by
  intro g hg
  rcases h.2.2 with ⟨rfl, _⟩ | ⟨g', off, cap, cur, rfl, _, hg', _⟩
  · simp [Value.ownBlock] at hg
  · simp only [Value.ownBlock, Option.some.injEq] at hg
    subst hg
    exact ⟨_, _, hg'⟩
theorem RT.tagu {w : World} {u : Nat} {sv : Value} {bs : List UInt8} (h : RT w u sv bs) : Tag w u 48 := ⟨_, _, h.1⟩
theorem TapeX.tag {X : Nat → Prop} {w : World} {b : Nat} {bs : List UInt8} (h : TapeX X w b bs) : Tag w b 60 := by
  obtain ⟨sv, h1, _⟩ := h
  exact ⟨_, _, h1⟩

/-- what a deed reads as: block z -/
def Zat (w : World) (z : Nat) (d n : Int) (v : Value) : Prop := w.heap[z]? = some (.cells #[.int .i64 d, .int .i64 n, v] 45 (0, 0))
theorem Zat.fr {S : Nat → Prop} {w w' : World} {z : Nat} {d n : Int} {v : Value} (h : Zat w z d n v) (hf : Fr S w w') (hs : ∀ k, S k → ¬ Tag w k 45) : Zat w' z d n v :=
  hf.obj h (fun hS => hs z hS ⟨_, _, h⟩)

/-- both tapes hold the bytes bs, in memory from N on -/
structure JT (N : Nat) (W w : World) (b u : Nat) (bs : List UInt8) : Prop where
  low : Below N W w
  hb : N ≤ b
  hu : N ≤ u
  tape : ∃ sv, TapeX (RS u sv) w b bs ∧ RT w u sv bs ∧ ∀ g, sv.ownBlock = some g → N ≤ g
/-- a frame that leaves both tapes alone -/
theorem JT.frame {N : Nat} {W w w' : World} {b u : Nat} {bs : List UInt8} {S : Nat → Prop} (h : JT N W w b u bs) (hf : Fr S w w') (hN : N ≤ w.heap.size) (hs : ∀ k, S k → N ≤ k ∧ ¬ Tag w k 60 ∧ ¬ Tag w k 48 ∧ ¬ Tag w k 5) : JT N W w' b u bs := by
  obtain ⟨sv, ht, hr, hg⟩ := h.tape
  refine ⟨h.low.trans (hf.below hN (fun k hk => (hs k hk).1)), h.hb, h.hu, sv, ht.frX hf (fun hS => (hs b hS).2.1 ht.tag) (fun g hS => Or.inr (hs g hS).2.2.2), hr.fr hf ?_, hg⟩
  rintro k (rfl | hk) hS
  · exact (hs k hS).2.2.1 hr.tagu
  · exact (hs k hS).2.2.2 (hr.tag k hk)
theorem JT.step {N : Nat} {W w w1 w2 : World} {b u : Nat} {sv sv' : Value} {bs0 bs' : List UInt8} {S1 S2 : Nat → Prop} (hN : N ≤ w.heap.size) (hlow : Below N W w) (hb : N ≤ b) (hu : N ≤ u) (hn : ∀ g, sv.ownBlock = some g → N ≤ g)
    (ht : TapeX (RS u sv) w1 b bs') (hr1 : RT w1 u sv bs0) (hf1 : Fr S1 w w1) (h1 : ∀ k, S1 k → N ≤ k) (hr2 : RT w2 u sv' bs') (hnear : Near w1 sv sv') (hf2 : Fr S2 w1 w2)
    (h2 : ∀ k, S2 k → N ≤ k ∧ k ≠ b ∧ (RS u sv k ∨ ¬ Tag w1 k 5)) : JT N W w2 b u bs' := by
  have hN1 : N ≤ w1.heap.size := Nat.le_trans hN hf1.size
  refine ⟨(hlow.trans (hf1.below hN h1)).trans (hf2.below hN1 (fun k hk => (h2 k hk).1)), hb, hu, sv', ?_, hr2, fun g hg => ?_⟩
  · have a1 : TapeX (fun k => RS u sv k ∨ RS u sv' k) w1 b bs' := ht.weaken (fun k hk hx => by
      rcases hx with hx | hx | hx
      · exact hx
      · exact Or.inl hx
      · rcases hnear k hx with h | h
        · exact Or.inr h
        · omega)
    have a2 := a1.frX hf2 (fun hS => (h2 b hS).2.1 rfl) (fun g hS => (h2 g hS).2.2.elim (fun h => Or.inl (Or.inl h)) Or.inr)
    exact a2.weaken (fun k _ hx => Or.inr hx)
  · rcases hnear g hg with h | h
    · exact hn g h
    · omega

/-- both timers say the same -/
structure J (N : Nat) (W w : World) (x b m u : Nat) (term wait heard : Int) (bs : List UInt8) : Prop where
  jt : JT N W w b u bs
  hx : N ≤ x
  hm : N ≤ m
  t : TimerAt w x term wait heard b
  r : RTimerAt w m term wait heard u
  t1 : 1 ≤ term
  t2 : term ≤ 1048576
  w1 : term ≤ wait
  w2 : wait < 2 * term
  h1 : 0 ≤ heard
  h2 : heard ≤ 1099511627776
theorem tagT {w : World} {x b : Nat} {term wait heard : Int} (h : TimerAt w x term wait heard b) : Tag w x 62 := ⟨_, _, h⟩
theorem tagR {w : World} {x b : Nat} {term wait heard : Int} (h : RTimerAt w x term wait heard b) : Tag w x 54 := ⟨_, _, h⟩
theorem tagZ {w : World} {z : Nat} {d n : Int} {v : Value} (h : Zat w z d n v) : Tag w z 45 := ⟨_, _, h⟩
theorem not_tag {w : World} {k : Nat} {t t' : TypeId} (h : Tag w k t) (hn : t ≠ t') : ¬ Tag w k t' := fun h' => Tag.ne h h' hn rfl
/-- a frame that leaves all of it alone -/
theorem J.frame {N : Nat} {W w w' : World} {x b m u : Nat} {term wait heard : Int} {bs : List UInt8} {S : Nat → Prop} (h : J N W w x b m u term wait heard bs) (hf : Fr S w w') (hN : N ≤ w.heap.size)
    (hs : ∀ k, S k → N ≤ k ∧ ¬ Tag w k 60 ∧ ¬ Tag w k 48 ∧ ¬ Tag w k 5 ∧ ¬ Tag w k 62 ∧ ¬ Tag w k 54) : J N W w' x b m u term wait heard bs :=
  { h with
    jt := h.jt.frame hf hN (fun k hk => ⟨(hs k hk).1, (hs k hk).2.1, (hs k hk).2.2.1, (hs k hk).2.2.2.1⟩)
    t := hf.obj h.t (fun hS => (hs _ hS).2.2.2.2.1 (tagT h.t))
    r := hf.obj h.r (fun hS => (hs _ hS).2.2.2.2.2 (tagR h.r)) }
theorem J.drewN {N : Nat} {W w : World} {x b m u : Nat} {term wait heard : Int} {bs : List UInt8} (h : J N W w x b m u term wait heard bs) (hN : N ≤ w.heap.size) (n : Nat) : J N W (w.drewN n) x b m u term wait heard bs :=
  h.frame (Fr.drewN (Fr.refl (fun _ => False) w) n) hN (fun _ h => h.elim)

/-- both hear -/
theorem j_hear {N : Nat} {W w : World} {x b m u z : Nat} {term wait heard now d n : Int} {v : Value} {bs : List UInt8} (h : J N W w x b m u term wait heard bs) (hN : N ≤ w.heap.size) (hz : Zat w z d n v) :
    Calls Try.prog 31 #[.pointer (some ⟨x, 0, none⟩), .int .i64 now] w fun e w1 => e = .returned (.tuple #[]) ∧ Zat w1 z d n v ∧
      Calls Try.prog 32 #[.pointer (some ⟨m, 0, none⟩), .int .i64 now] w1 fun e w2 => e = .returned (.tuple #[]) ∧ Zat w2 z d n v ∧ w.heap.size ≤ w2.heap.size ∧ ∃ heard', J N W w2 x b m u term wait heard' bs := by
  cases hm : mayT now with
  | false =>
    refine (heard_no w x b term wait heard now h.t (by have := h.t1; omega) (Lib.hid hm)).mono ?_
    rintro e w1 ⟨rfl, rfl⟩
    refine ⟨rfl, hz, (rhear_no w m now (Lib.hid hm)).mono ?_⟩
    rintro e w1 ⟨rfl, rfl⟩
    exact ⟨rfl, hz, Nat.le_refl _, heard, h⟩
  | true =>
    have hmm : 0 ≤ now ∧ now ≤ 1099511627776 := of_decide_eq_true hm
    refine (heard_yes w x b term wait heard now h.t (by have := h.t1; omega) (Lib.hid hm)).mono ?_
    rintro e w1 ⟨rfl, ht1, hf1⟩
    have tx := tagT h.t
    have hj : JT N W w1 b u bs := h.jt.frame hf1 hN (by rintro k rfl; exact ⟨h.hx, not_tag tx (by decide), not_tag tx (by decide), not_tag tx (by decide)⟩)
    have hz1 := hz.fr hf1 (by rintro k rfl; exact not_tag tx (by decide))
    have hr1 : RTimerAt w1 m term wait heard u := hf1.obj h.r (fun e => Tag.ne (tagR h.r) tx (by decide) e)
    refine ⟨rfl, hz1, (rhear_yes w1 m u term wait heard now hr1 (Lib.hid hm)).mono ?_⟩
    rintro e w2 ⟨rfl, hr2, hf2⟩
    have tm := tagR hr1
    refine ⟨rfl, hz1.fr hf2 (by rintro k rfl; exact not_tag tm (by decide)), Nat.le_trans hf1.size hf2.size, now, ?_⟩
    have hj2 : JT N W w2 b u bs := hj.frame hf2 (Nat.le_trans hN hf1.size) (by rintro k rfl; exact ⟨h.hm, not_tag tm (by decide), not_tag tm (by decide), not_tag tm (by decide)⟩)
    exact { jt := hj2, hx := h.hx, hm := h.hm, t := hf2.obj ht1 (fun e => Tag.ne (tagT ht1) tm (by decide) e), r := hr2, t1 := h.t1, t2 := h.t2, w1 := h.w1, w2 := h.w2, h1 := hmm.1, h2 := hmm.2 }

/-- both start anew -/
theorem j_again {N : Nat} {W w : World} {x b m u z : Nat} {term wait heard now d n : Int} {v : Value} {bs : List UInt8} (h : J N W w x b m u term wait heard bs) (hN : N ≤ w.heap.size) (hz : Zat w z d n v) :
    Calls Try.prog 27 #[.pointer (some ⟨x, 0, none⟩), .int .i64 now] w fun e w1 => e = .returned (.tuple #[]) ∧ Zat w1 z d n v ∧
      Calls Try.prog 33 #[.pointer (some ⟨m, 0, none⟩), .int .i64 now] w1 fun e w2 => e = .returned (.tuple #[]) ∧ Zat w2 z d n v ∧ w.heap.size ≤ w2.heap.size ∧ ∃ wait' heard' bs', J N W w2 x b m u term wait' heard' bs' := by
  have hterm := h.t1
  cases hm : mayT now with
  | false =>
    refine (again_no w x b term wait heard now h.t (by omega) (Lib.hid hm)).mono ?_
    rintro e w1 ⟨rfl, rfl⟩
    refine ⟨rfl, hz, (ragain_no w m now (Lib.hid hm)).mono ?_⟩
    rintro e w1 ⟨rfl, rfl⟩
    exact ⟨rfl, hz, Nat.le_refl _, wait, heard, bs, h⟩
  | true =>
    have hmm : 0 ≤ now ∧ now ≤ 1099511627776 := of_decide_eq_true hm
    obtain ⟨sv, ht, hr, hg⟩ := h.jt.tape
    have tx := tagT h.t
    have tb := ht.tag
    obtain ⟨q1, q2⟩ := drawV_range term bs h.t1
    refine (again_yes w x b bs term wait heard now h.t (by omega) h.t2 (Lib.hid hm) ht (Tag.ne tx tb (by decide))).mono ?_
    rintro e w1 ⟨rfl, ht1, htape1, hf1⟩
    have hz1 := hz.fr hf1 (by rintro k (rfl | rfl); exact not_tag tx (by decide); exact not_tag tb (by decide))
    have hr1 : RT w1 u sv bs := hr.fr hf1 (by
      rintro k hk (rfl | rfl)
      · exact hk.elim (Tag.ne tx hr.tagu (by decide)) (fun h => not_tag tx (by decide) (hr.tag _ h))
      · exact hk.elim (Tag.ne tb hr.tagu (by decide)) (fun h => not_tag tb (by decide) (hr.tag _ h)))
    have hrt1 : RTimerAt w1 m term wait heard u := hf1.obj h.r (by rintro (e | e); exact Tag.ne (tagR h.r) tx (by decide) e; exact Tag.ne (tagR h.r) tb (by decide) e)
    have tm := tagR hrt1
    have tb1 := htape1.tag
    refine ⟨rfl, hz1, (ragain_yes w1 m u sv bs term wait heard now hrt1 (by omega) h.t2 (Lib.hid hm) hr1 (Lib.hid ?_)).mono ?_⟩
    · rintro (hk | hk)
      · exact Tag.ne tm hr1.tagu (by decide) hk
      · exact not_tag tm (by decide) (hr1.tag _ hk)
    rintro e w2 ⟨rfl, hrt2, sv', hr2, hnear, hf2⟩
    have hmz : ∀ k, (k = m ∨ RS u sv k) → ¬ Tag w1 k 45 ∧ ¬ Tag w1 k 62 ∧ k ≠ b ∧ N ≤ k := by
      rintro k (rfl | rfl | hk)
      · exact ⟨not_tag tm (by decide), not_tag tm (by decide), Tag.ne tm tb1 (by decide), h.hm⟩
      · exact ⟨not_tag hr1.tagu (by decide), not_tag hr1.tagu (by decide), Tag.ne hr1.tagu tb1 (by decide), h.jt.hu⟩
      · have tk := hr1.tag k hk
        exact ⟨not_tag tk (by decide), not_tag tk (by decide), Tag.ne tk tb1 (by decide), hg k hk⟩
    refine ⟨rfl, hz1.fr hf2 (fun k hk => (hmz k hk).1), Nat.le_trans hf1.size hf2.size, term + drawV term bs, now, drawR term bs, ?_⟩
    have hj2 : JT N W w2 b u (drawR term bs) := JT.step hN h.jt.low h.jt.hb h.jt.hu hg htape1 hr1 hf1 (by rintro k (rfl | rfl); exact h.hx; exact h.jt.hb) hr2 hnear hf2 (fun k hk => ⟨(hmz k hk).2.2.2, (hmz k hk).2.2.1, by
      rcases hk with rfl | hk
      · exact Or.inr (not_tag tm (by decide))
      · exact Or.inl hk⟩)
    exact { jt := hj2, hx := h.hx, hm := h.hm, t := hf2.obj ht1 (fun hS => (hmz x hS).2.1 (tagT ht1)), r := hrt2, t1 := h.t1, t2 := h.t2, w1 := by omega, w2 := by omega, h1 := hmm.1, h2 := hmm.2 }

/-- both tapes are handed bytes -/
theorem jt_add {N : Nat} {W w : World} {b u : Nat} {bs cs : List UInt8} {v : Value} (h : JT N W w b u bs) (hN : N ≤ w.heap.size) (hv : Bytes w v cs) (hvN : ∀ g, v.ownBlock = some g → cs ≠ [] → g < N) :
    Calls Try.prog 22 #[.pointer (some ⟨b, 0, none⟩), v] w fun e w1 => ∃ r, e = .returned (.int .i64 r) ∧ Fr (· = b) w w1 ∧ Tag w b 60 ∧
      Calls Try.prog 29 #[.pointer (some ⟨u, 0, none⟩), v] w1 fun e w2 => e = .returned (.int .i64 r) ∧ (∀ k, Tag w1 k 60 ∨ Tag w1 k 62 ∨ Tag w1 k 54 ∨ Tag w1 k 45 → w2.heap[k]? = w1.heap[k]?) ∧ w1.heap.size ≤ w2.heap.size ∧ ∃ bs', JT N W w2 b u bs' := by
  obtain ⟨sv, ht, hr, hg⟩ := h.tape
  have tb := ht.tag
  by_cases hl : cs.length + bs.length ≤ 65536
  · refine (add_ok w b bs cs v ht hv hl hr.lt).mono ?_
    rintro e w1 ⟨rfl, ht1, hf1⟩
    have hr1 : RT w1 u sv bs := hr.fr hf1 (by
      rintro k hk rfl
      exact hk.elim (Tag.ne tb hr.tagu (by decide)) (fun h => not_tag tb (by decide) (hr.tag _ h)))
    have hv1 : Bytes w1 v cs := hv.fr hf1 (fun g hg' hx => by
      have hc : cs ≠ [] := by rintro rfl; exact hx rfl
      have := hvN g hg' hc
      have := h.hb
      show g ≠ b
      omega)
    refine ⟨0, rfl, hf1, tb, (radd_ok w1 u sv bs cs v hr1 hv1 hl (Lib.hid ?_)).mono ?_⟩
    · rintro g hg' hc (hk | hk)
      · have := hvN g hg' hc; have := h.hu; omega
      · have := hvN g hg' hc; have := hg g hk; omega
    rintro e w2 ⟨rfl, sv', hr2, hnear, hf2⟩
    refine ⟨rfl, ?_, hf2.size, bs ++ cs, JT.step hN h.low h.hb h.hu hg ht1 hr1 hf1 (by rintro k rfl; exact h.hb) hr2 hnear hf2 (fun k hk => ⟨?_, ?_, Or.inl hk⟩)⟩
    · intro k hk
      have hlt : k < w1.heap.size := by rcases hk with h | h | h | h <;> exact Tag.lt h
      refine hf2.block k hlt ?_
      rintro (rfl | hk')
      · rcases hk with h | h | h | h <;> exact not_tag hr1.tagu (by decide) h
      · have := hr1.tag k hk'
        rcases hk with h | h | h | h <;> exact not_tag this (by decide) h
    · exact hk.elim (fun h' => h' ▸ h.hu) (fun h' => hg k h')
    · exact hk.elim (fun h' => h' ▸ Tag.ne hr1.tagu ht1.tag (by decide)) (fun h' => Tag.ne (hr1.tag k h') ht1.tag (by decide))
  · refine (add_full w b bs cs v ht hv (by omega)).mono ?_
    rintro e w1 ⟨rfl, rfl⟩
    refine ⟨6, rfl, Fr.refl _ _, tb, (radd_full w u sv bs cs v hr hv (by omega)).mono ?_⟩
    rintro e w1 ⟨rfl, rfl⟩
    exact ⟨rfl, fun _ _ => rfl, Nat.le_refl _, bs, h⟩

theorem j_add {N : Nat} {W w : World} {x b m u z : Nat} {term wait heard d n : Int} {v : Value} {bs cs : List UInt8} (h : J N W w x b m u term wait heard bs) (hN : N ≤ w.heap.size) (hz : Zat w z d n v) (hv : Bytes w v cs) (hvN : ∀ g, v.ownBlock = some g → cs ≠ [] → g < N) :
    Calls Try.prog 22 #[.pointer (some ⟨b, 0, none⟩), v] w fun e w1 => ∃ r, e = .returned (.int .i64 r) ∧ Zat w1 z d n v ∧
      Calls Try.prog 29 #[.pointer (some ⟨u, 0, none⟩), v] w1 fun e w2 => e = .returned (.int .i64 r) ∧ Zat w2 z d n v ∧ w.heap.size ≤ w2.heap.size ∧ ∃ bs', J N W w2 x b m u term wait heard bs' := by
  refine (jt_add h.jt hN hv hvN).mono ?_
  rintro e w1 ⟨r, rfl, hf1, tb, hc⟩
  have hz1 := hz.fr hf1 (by rintro k rfl; exact not_tag tb (by decide))
  have ht1 : TimerAt w1 x term wait heard b := hf1.obj h.t (fun e => Tag.ne (tagT h.t) tb (by decide) e)
  have hr1 : RTimerAt w1 m term wait heard u := hf1.obj h.r (fun e => Tag.ne (tagR h.r) tb (by decide) e)
  refine ⟨r, rfl, hz1, hc.mono ?_⟩
  rintro e w2 ⟨rfl, hk, hs, bs', hj⟩
  exact ⟨rfl, (hk z (.inr (.inr (.inr (tagZ hz1))))).trans hz1, Nat.le_trans hf1.size hs, bs',
    { h with jt := hj, t := (hk x (.inr (.inl (tagT ht1)))).trans ht1, r := (hk m (.inr (.inr (.inl (tagR hr1))))).trans hr1 }⟩

/-- both draw -/
theorem j_draw {N : Nat} {W w : World} {x b m u z : Nat} {term wait heard d n n' : Int} {v : Value} {bs : List UInt8} (h : J N W w x b m u term wait heard bs) (hN : N ≤ w.heap.size) (hz : Zat w z d n v) (hn : n' ≤ 9223372036854775807) :
    Calls Try.prog 25 #[.pointer (some ⟨b, 0, none⟩), .int .i64 n'] w fun e w1 => ∃ r, e = .returned (.int .i64 r) ∧ Zat w1 z d n v ∧
      Calls Try.prog 34 #[.pointer (some ⟨u, 0, none⟩), .int .i64 n'] w1 fun e w2 => e = .returned (.int .i64 r) ∧ Zat w2 z d n v ∧ w.heap.size ≤ w2.heap.size ∧ ∃ bs', J N W w2 x b m u term wait heard bs' := by
  obtain ⟨sv, ht, hr, hg⟩ := h.jt.tape
  have tb := ht.tag
  refine (draw_any w b n' bs ht hn).mono ?_
  rintro e w1 ⟨rfl, ht1, hf1⟩
  have hr1 : RT w1 u sv bs := hr.fr hf1 (by
    rintro k hk rfl
    exact hk.elim (Tag.ne tb hr.tagu (by decide)) (fun h => not_tag tb (by decide) (hr.tag _ h)))
  have hz1 := hz.fr hf1 (by rintro k rfl; exact not_tag tb (by decide))
  have htm1 : TimerAt w1 x term wait heard b := hf1.obj h.t (fun e => Tag.ne (tagT h.t) tb (by decide) e)
  have hrm1 : RTimerAt w1 m term wait heard u := hf1.obj h.r (fun e => Tag.ne (tagR h.r) tb (by decide) e)
  refine ⟨_, rfl, hz1, (rdraw_any w1 u sv n' bs hr1 hn).mono ?_⟩
  rintro e w2 ⟨rfl, sv', hr2, hnear, hf2⟩
  have hk : ∀ k, RS u sv k → Tag w1 k 48 ∨ Tag w1 k 5 := by
    rintro k (rfl | hk)
    · exact Or.inl hr1.tagu
    · exact Or.inr (hr1.tag k hk)
  refine ⟨rfl, hz1.fr hf2 (fun k h' => (hk k h').elim (fun h => not_tag h (by decide)) (fun h => not_tag h (by decide))), Nat.le_trans hf1.size hf2.size, drawR n' bs, ?_⟩
  have hj : JT N W w2 b u (drawR n' bs) := JT.step hN h.jt.low h.jt.hb h.jt.hu hg ht1 hr1 hf1 (by rintro k rfl; exact h.jt.hb) hr2 hnear hf2 (fun k h' => ⟨h'.elim (fun e => e ▸ h.jt.hu) (fun e => hg k e), (hk k h').elim (fun h => Tag.ne h ht1.tag (by decide)) (fun h => Tag.ne h ht1.tag (by decide)), Or.inl h'⟩)
  exact { h with jt := hj
                 t := hf2.obj htm1 (fun h' => (hk _ h').elim (fun h => not_tag h (by decide) (tagT htm1)) (fun h => not_tag h (by decide) (tagT htm1)))
                 r := hf2.obj hrm1 (fun h' => (hk _ h').elim (fun h => not_tag h (by decide) (tagR hrm1)) (fun h => not_tag h (by decide) (tagR hrm1))) }

/-- what is read of both -/
theorem J.left {N : Nat} {W w : World} {x b m u : Nat} {term wait heard : Int} {bs : List UInt8} (h : J N W w x b m u term wait heard bs) :
    Calls Try.prog 26 #[.pointer (some ⟨b, 0, none⟩)] w fun e w' => e = .returned (.int .i64 bs.length) ∧ w = w' := by
  obtain ⟨sv, ht, hr, hg⟩ := h.jt.tape
  exact left_any w b bs ht
theorem J.rleft {N : Nat} {W w : World} {x b m u : Nat} {term wait heard : Int} {bs : List UInt8} (h : J N W w x b m u term wait heard bs) :
    ∃ a cap, w.cell? ⟨u, 0, none⟩ = some (.slice a bs.length cap) ∧ bs.length ≤ cap ∧ cap ≤ 9223372036854775807 := by
  obtain ⟨sv, ht, hr, hg⟩ := h.jt.tape
  obtain ⟨a, cap, rfl, h1, h2⟩ := hr.2.reads.shape
  exact ⟨a, cap, by simpa using cell_at hr.1 0, h1, h2⟩

/-- both timers are made -/
theorem j_new {N : Nat} {W w : World} {b u : Nat} {term : Int} {bs : List UInt8} (h : JT N W w b u bs) (hN : N ≤ w.heap.size) (h1 : 1 ≤ term) (h2 : term ≤ 1048576) :
    Calls Try.prog 23 #[.int .i64 term, .pointer (some ⟨b, 0, none⟩)] w fun e w1 => ∃ x, e = .returned (.tuple #[.pointer (some ⟨x, 0, none⟩), .int .i64 0]) ∧
      Calls Try.prog 30 #[.int .i64 term, .pointer (some ⟨u, 0, none⟩)] w1 fun e w2 => ∃ m, e = .returned (.tuple #[.pointer (some ⟨m, 0, none⟩), .int .i64 0]) ∧ N ≤ w2.heap.size ∧ ∃ wait bs', J N W w2 x b m u term wait 0 bs' := by
  obtain ⟨sv, ht, hr, hg⟩ := h.tape
  have tb := ht.tag
  obtain ⟨q1, q2⟩ := drawV_range term bs h1
  refine (new_ok w b term bs ht h1 h2).mono ?_
  rintro e w1 ⟨x, rfl, hx, htm1, ht1, hf1⟩
  have hr1 : RT w1 u sv bs := hr.fr hf1 (by
    rintro k hk rfl
    exact hk.elim (Tag.ne tb hr.tagu (by decide)) (fun h => not_tag tb (by decide) (hr.tag _ h)))
  refine ⟨x, rfl, (rnew_ok w1 u sv term bs hr1 h1 h2).mono ?_⟩
  rintro e w2 ⟨m, rfl, hm, hrm2, sv', hr2, hnear, hf2⟩
  have hk : ∀ k, RS u sv k → Tag w1 k 48 ∨ Tag w1 k 5 := by
    rintro k (rfl | hk)
    · exact Or.inl hr1.tagu
    · exact Or.inr (hr1.tag k hk)
  have hs1 := hf1.size
  have hs2 := hf2.size
  refine ⟨m, rfl, by omega, term + drawV term bs, drawR term bs, ?_⟩
  have hj : JT N W w2 b u (drawR term bs) := JT.step hN h.low h.hb h.hu hg ht1 hr1 hf1 (by rintro k rfl; exact h.hb) hr2 hnear hf2 (fun k h' => ⟨h'.elim (fun e => e ▸ h.hu) (fun e => hg k e), (hk k h').elim (fun h => Tag.ne h ht1.tag (by decide)) (fun h => Tag.ne h ht1.tag (by decide)), Or.inl h'⟩)
  exact { jt := hj, hx := by omega, hm := by omega, t := hf2.obj htm1 (fun h' => (hk _ h').elim (fun h => not_tag h (by decide) (tagT htm1)) (fun h => not_tag h (by decide) (tagT htm1))), r := hrm2, t1 := h1, t2 := h2, w1 := by omega, w2 := by omega, h1 := by omega, h2 := by omega }
end Go.Proofs.Ytjfdpggbpmicnaa.T
