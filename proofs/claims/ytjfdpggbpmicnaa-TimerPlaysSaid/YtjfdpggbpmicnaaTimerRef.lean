/- What the reference's tapes and timers do in memory. Conditions stand at each theorem. -/
import Derived.Test.YtjfdpggbpmicnaaTimerTapes
import Derived.Deep.RegionLaw
namespace Go.Proofs.Ytjfdpggbpmicnaa.T
open Go.RowKit Go.Proofs.Ytjfdpggbpmicnaa.M
set_option linter.unusedVariables false

/-- block u is the reference's tape with the bytes bs; they lie in sv -/
def RT (w : World) (u : Nat) (sv : Value) (bs : List UInt8) : Prop := w.heap[u]? = some (.cells #[sv] 48 (0, 0)) ∧ Owns w 0 5 1 sv bs.length (bs.map u8)
/-- sv' lies where sv lay, or in new memory -/
def Near (w : World) (sv sv' : Value) : Prop := ∀ k, sv'.ownBlock = some k → sv.ownBlock = some k ∨ w.heap.size ≤ k
def RS (u : Nat) (sv : Value) (k : Nat) : Prop := k = u ∨ sv.ownBlock = some k
theorem RT.ne {w : World} {u : Nat} {sv : Value} {bs : List UInt8} (h : RT w u sv bs) : sv.ownBlock ≠ some u := by
  intro he
  rcases h.2.2 with ⟨rfl, _⟩ | ⟨g, off, cap, cur, rfl, _, hg, _⟩
  · simp [Value.ownBlock] at he
  · simp only [Value.ownBlock, Option.some.injEq] at he
    subst he
    have := h.1
    rw [this] at hg
    simp at hg

set_option maxHeartbeats 1000000 in
theorem radd_full (w : World) (u : Nat) (sv : Value) (bs cs : List UInt8) (v : Value) (ht : RT w u sv bs) (hv : Bytes w v cs) (hl : 65536 < cs.length + bs.length) :
    Calls Try.prog 29 #[.pointer (some ⟨u, 0, none⟩), v] w fun e w' => e = .returned (.int .i64 6) ∧ w = w' := by
  obtain ⟨h1, h2⟩ := ht
  obtain ⟨a, cap, rfl, hcap, hmax⟩ := hv.shape
  obtain ⟨a', cap', rfl, hcap', hmax'⟩ := h2.reads.shape
  have c0 := cell_at h1 0
  simp at c0
  clear h1
  go_enter Try.func29, Try.ntmps29
  go_wp2_with fail
  go_ret
  exact ⟨rfl, rfl⟩

theorem radd_step (w wr wa w' : World) (u : Nat) (sv svj : Value) (bs cs : List UInt8) (j : Nat) (hlt : j < cs.length) (q : Option Addr) (k : Nat) (H1 : wr.heap[u]? = some (.cells #[svj] 48 (0, 0))) (hne : svj.ownBlock ≠ some u)
    (F : Fr (fun _ => False) wr wa) (h1 : Owns w' 0 5 1 (.slice q (bs.length + j + 1) k) (bs.length + j + 1) (List.map u8 (bs ++ cs.take j) ++ [.int .u8 cs[j].toNat])) (h4 : wa.grownBy w' svj.ownBlock)
    (h5 : ∀ p : Addr, q = some p → svj.ownBlock = some p.block ∨ wa.heap.size ≤ p.block) (hnear : Near w sv svj) (hbr : Fr (RS u sv) w wr) :
    RT (w'.setCell ⟨u, 0, none⟩ (.slice q (bs.length + j + 1) k)) u (.slice q (bs.length + j + 1) k) (bs ++ cs.take (j + 1)) ∧ Near w sv (.slice q (bs.length + j + 1) k) ∧
      Fr (RS u sv) w (w'.setCell ⟨u, 0, none⟩ (.slice q (bs.length + j + 1) k)) := by
  have hu := lt_of_obj H1
  have hua : u < wa.heap.size := Nat.lt_of_lt_of_le hu F.size
  have o1 : w'.heap[u]? = some (.cells #[svj] 48 (0, 0)) := (h4.block u hua (fun h => hne h.symm)).trans (F.obj H1 id)
  have o2 := heap_setCell_at o1 0 (.slice q (bs.length + j + 1) k)
  have hb : ∀ g, (Value.slice q (bs.length + j + 1) k).ownBlock = some g → svj.ownBlock = some g ∨ wa.heap.size ≤ g := by
    intro g hg
    cases q with
    | none => simp [Value.ownBlock] at hg
    | some p =>
      simp only [Value.ownBlock, Option.some.injEq] at hg
      subst hg
      exact h5 p rfl
  refine ⟨⟨o2, ?_⟩, ?_, ?_⟩
  · have hl : (bs ++ cs.take (j + 1)).length = bs.length + j + 1 := by simp; omega
    have hm : (bs ++ cs.take (j + 1)).map u8 = List.map u8 (bs ++ cs.take j) ++ [.int .u8 cs[j].toNat] := by
      rw [List.take_succ_eq_append_getElem hlt, ← List.append_assoc, List.map_append (l₁ := bs ++ cs.take j)]
      rfl
    rw [hl, hm]
    refine h1.fr (S := (· = u)) (Fr.setCell (Fr.refl _ _) _ _ (fun _ => rfl)) (fun g hg e => ?_)
    subst e
    rcases hb g hg with h | h
    · exact hne h
    · omega
  · intro g hg
    rcases hb g hg with h | h
    · exact hnear g h
    · exact Or.inr (Nat.le_trans hbr.size (Nat.le_trans F.size h))
  · refine Fr.setCell (Fr.trans (Fr.trans hbr F (fun _ _ h => h.elim)) (Fr.of_grown (S := fun k => svj.ownBlock = some k) h4 (fun k hk _ => hk)) (fun x hx hs => ?_)) _ _ (fun _ => Or.inl rfl)
    rcases hnear x hs with h | h
    · exact Or.inr h
    · omega

set_option maxHeartbeats 2000000 in
theorem radd_ok (w : World) (u : Nat) (sv : Value) (bs cs : List UInt8) (v : Value) (ht : RT w u sv bs) (hv : Bytes w v cs) (hl : cs.length + bs.length ≤ 65536) (hvS : Hid (∀ g, v.ownBlock = some g → cs ≠ [] → ¬ RS u sv g)) :
    Calls Try.prog 29 #[.pointer (some ⟨u, 0, none⟩), v] w fun e w' => e = .returned (.int .i64 0) ∧ ∃ sv', RT w' u sv' (bs ++ cs) ∧ Near w sv sv' ∧ Fr (RS u sv) w w' := by
  obtain ⟨i, hi, hz0, hz1, hz2⟩ := info_parts info5
  have Hi := Lib.hid hi
  have Hz0 := Lib.hid hz0
  have Hz1 := Lib.hid hz1
  have Hz2 := Lib.hid hz2
  clear hi hz0 hz1 hz2
  obtain ⟨a, cap, rfl, hcap, hmax⟩ := hv.shape
  have ht0 := ht
  obtain ⟨h1, h2⟩ := ht
  obtain ⟨a', cap', rfl, hcap', hmax'⟩ := h2.reads.shape
  have c0 := cell_at h1 0
  simp at c0
  clear h1 h2
  generalize hsv : Value.slice a' bs.length cap' = sv at *
  have HSV := Lib.hid hsv
  clear hsv
  go_enter Try.func29, Try.ntmps29
  rw [← HSV.out] at c0
  go_wp2_with fail
  clear c0
  go_loopg [5] cs.length (fun k i wr => ∃ j : Nat, ∃ svj, j ≤ cs.length ∧ k + j = cs.length ∧ i = .int .i64 j ∧ RT wr u svj (bs ++ cs.take j) ∧ Near w sv svj ∧ Fr (RS u sv) w wr)
  case atStart => exact ⟨0, sv, by omega, by omega, rfl, by simpa using ht0, fun k hk => Or.inl hk, Fr.refl _ _⟩
  case round =>
    obtain ⟨j, svj, hj, hk, rfl, hr, hnear, hbr⟩ := hrel
    by_cases hlt : j < cs.length
    · have hne := RT.ne hr
      obtain ⟨h1, h2⟩ := hr
      obtain ⟨g, o, hix, hcell, hown⟩ := index_reads 34 5 Try.underlying34 i Hi.out w Hz1.out _ _ _ hv j (u8 cs[j]) (by simp [hlt])
      have hgw : g < w.heap.size := World.block_lt_of_cell? w _ hcell
      have hcs : cs ≠ [] := by rintro rfl; simp at hlt
      have hgS := hvS.out g hown hcs
      have hcell2 : wr.cell? ⟨g, o, none⟩ = some (.int .u8 cs[j].toNat) := (hbr.cell hgw hgS).trans hcell
      have hgj : svj.ownBlock ≠ some g := by
        intro he
        rcases hnear g he with h | h
        · exact hgS (Or.inr h)
        · omega
      have hgu : g ≠ u := fun h => hgS (Or.inl h)
      have c0 := cell_at h1 0
      have f0 := free_at h1 0
      simp at c0
      have hlen : (bs ++ cs.take j).length = bs.length + j := by simp; omega
      rw [hlen] at h2
      clear hlen
      obtain ⟨a9, k9, rfl, hk9, hm9⟩ := h2.reads.shape
      have H1 := Lib.hid h1
      have H2 := Lib.hid h2
      have H3 := Lib.hid hnear
      have H4 := Lib.hid hne
      have H5 := Lib.hid hgj
      clear hcell h1 h2 hnear hne hgj hvS
      go_wp2_with fail

      have F0 : ∀ o : Obj, Fr (fun _ => False) wr (wr.drew.alloc o) := fun o => Fr.alloc (Fr.drew (Fr.refl (fun _ => False) wr)) o
      have hu := lt_of_obj H1.out
      go_region_law ((refine step_append_owns rfl _ _ 34 rfl 0 5 i (.int .u8 0) 1 1 Try.underlying34 Hi.out Hz0.out Hz1.out Hz2.out rfl (.slice a9 (bs.length + j) k9) (bs.length + j) _ rfl (Owns.fr H2.out (F0 _) (fun _ _ => id)) _ 1 [.int .u8 cs[j].toNat] rfl (Reads.one (heap_alloc_new wr _)) (by simp [Value.oneCell']) _ rfl _ rfl (by omega) (by omega) (Nat.zero_le _) ?_; intro q k w' h1 h2 h3 h4 h5; have d0 := grown_cell h4 ((F0 _).cell_some c0 id) (fun h => H4.out h.symm); have e0 := ((grown_free h4 (o := 0) (by simp; omega) (fun h => H4.out h.symm)).trans ((F0 _).frozen hu id)).trans f0))
      go_wp2_with fail
      all_goals
        go_roundg (cs.length - (j + 1))
        case measure => omega
        case rel =>
          obtain ⟨x1, x2, x3⟩ := radd_step w wr _ w' u sv _ bs cs j hlt q k H1.out H4.out (F0 _) h1 h4 h5 H3.out hbr
          exact ⟨j + 1, _, by omega, by omega, by go_num, x1, x2, x3⟩
    · go_wp2_with fail
      go_ret
      have : j = cs.length := by omega
      subst this
      rw [List.take_length] at hr
      exact ⟨rfl, svj, hr, hnear, hbr⟩

theorem RT.fr {S : Nat → Prop} {w w' : World} {u : Nat} {sv : Value} {bs : List UInt8} (h : RT w u sv bs) (hf : Fr S w w') (hs : ∀ k, RS u sv k → ¬ S k) : RT w' u sv bs :=
  ⟨hf.obj h.1 (hs u (Or.inl rfl)), h.2.fr hf (fun g hg => hs g (Or.inr hg))⟩
theorem RT.lt {w : World} {u : Nat} {sv : Value} {bs : List UInt8} (h : RT w u sv bs) : ∀ k, RS u sv k → k < w.heap.size := by
  rintro k (rfl | hk)
  · exact lt_of_obj h.1
  · exact (h.2.base_le k hk).2

set_option maxHeartbeats 1000000 in
theorem rdraw_none (w : World) (u : Nat) (sv : Value) (n : Int) (bs : List UInt8) (ht : RT w u sv bs) (h : n < 2 ∨ bs = []) :
    Calls Try.prog 34 #[.pointer (some ⟨u, 0, none⟩), .int .i64 n] w fun e w' => e = .returned (.int .i64 0) ∧ w = w' := by
  obtain ⟨h1, h2⟩ := ht
  have c0 := cell_at h1 0
  simp at c0
  clear h1
  by_cases hn : n < 2
  · clear h
    go_enter Try.func34, Try.ntmps34
    go_wp2_with fail
    go_ret
    exact ⟨rfl, rfl⟩
  · have hb : bs = [] := h.resolve_left hn
    subst hb
    clear h
    obtain ⟨a', cap', rfl, hcap', hmax'⟩ := h2.reads.shape
    go_enter Try.func34, Try.ntmps34
    go_wp2_with fail
    go_ret
    exact ⟨rfl, rfl⟩

set_option maxHeartbeats 1000000 in
theorem rdraw_some (w : World) (u : Nat) (sv : Value) (n : Int) (c : UInt8) (cs : List UInt8) (ht : RT w u sv (c :: cs)) (h : 2 ≤ n) (hn2 : n ≤ 9223372036854775807) :
    Calls Try.prog 34 #[.pointer (some ⟨u, 0, none⟩), .int .i64 n] w fun e w' => e = .returned (.int .i64 ((c.toNat : Int) % n)) ∧ ∃ sv', RT w' u sv' cs ∧ Near w sv sv' ∧ Fr (RS u sv) w w' := by
  have hne := RT.ne ht
  obtain ⟨h1, h2⟩ := ht
  obtain ⟨g, off, cap, rfl, hcap, hmax, hc⟩ := Reads.cons1 h2.reads
  have hcb : c.toNat < 256 := c.toNat_lt
  have c0 := cell_at h1 0
  have f0 := free_at h1 0
  simp at c0
  have hc' : w.cell? ⟨g, off, none⟩ = some (.int .u8 c.toNat) := hc
  have H1 := Lib.hid h1
  have H2 := Lib.hid h2
  have hgu : g ≠ u := fun h => hne (by rw [← h]; rfl)
  clear h1 hc hne h2
  have F : ∀ x, Fr (fun k => k = u) w (w.setCell ⟨u, 0, none⟩ x) := fun x => Fr.setCell (Fr.refl _ _) _ _ (fun _ => rfl)
  have FS : ∀ x, Fr (RS u (.slice (some ⟨g, off, none⟩) (cs.length + 1) cap)) w (w.setCell ⟨u, 0, none⟩ x) := fun x => (F x).mono (fun _ _ h => Or.inl h)
  obtain ⟨gl, hlen⟩ : ∃ m, m = cs.length := ⟨_, rfl⟩
  rcases H2.out.2 with ⟨h0, _⟩ | ⟨g', off', cap', cur, he, hb, hg, hn, hm, hs, hcur⟩
  · cases h0
  · cases he
    have hzl : (((cs.length : Nat) : Int) + 1 == 0) = false := by rw [beq_eq_false_iff_ne]; omega
    have hnl : decide (n < 2) = false := by simp; omega
    have HC := Lib.hid (And.intro hg (And.intro hm (And.intro hs hcur)))
    clear hg hm hs hcur hb hn hlen
    by_cases hk : cap = 1
    · have hcs : cs = [] := List.eq_nil_of_length_eq_zero (by omega)
      subst hcs hk
      go_enter Try.func34, Try.ntmps34
      go_wp2_with fail
      go_ret
      refine ⟨rfl, _, ⟨heap_setCell_at H1.out 0 _, ?_⟩, fun k hk => Or.inl (by cases hk; rfl), FS _⟩
      obtain ⟨hg, hm, hs, hcur⟩ := HC.out
      exact ⟨rfl, .inr ⟨g, off, 0, cur, rfl, Nat.zero_le _, (F _).obj hg hgu, Nat.le_refl _, Nat.zero_le _, by omega, fun j u hj => by simp at hj⟩⟩
    · go_enter Try.func34, Try.ntmps34
      go_wp2_with fail
      go_ret
      refine ⟨rfl, _, ⟨heap_setCell_at H1.out 0 _, ?_⟩, fun k hk => Or.inl (by cases hk; rfl), FS _⟩
      obtain ⟨hg, hm, hs, hcur⟩ := HC.out
      refine ⟨by simp, .inr ⟨g, off + 1, cap - 1, cur, rfl, Nat.zero_le _, (F _).obj hg hgu, by omega, by omega, by omega, fun j u hj => ?_⟩⟩
      rw [Nat.add_assoc, Nat.add_comm 1 j]
      exact hcur (j + 1) u (by simpa using hj)

theorem rdraw_any (w : World) (u : Nat) (sv : Value) (n : Int) (bs : List UInt8) (ht : RT w u sv bs) (hn2 : n ≤ 9223372036854775807) :
    Calls Try.prog 34 #[.pointer (some ⟨u, 0, none⟩), .int .i64 n] w fun e w' => e = .returned (.int .i64 (drawV n bs)) ∧ ∃ sv', RT w' u sv' (drawR n bs) ∧ Near w sv sv' ∧ Fr (RS u sv) w w' := by
  by_cases hn : n < 2
  · have e1 : drawV n bs = 0 := by simp [drawV, hn]
    have e2 : drawR n bs = bs := by simp [drawR, hn]
    rw [e1, e2]
    refine (rdraw_none w u sv n bs ht (Or.inl hn)).mono ?_
    rintro e w' ⟨rfl, rfl⟩
    exact ⟨rfl, sv, ht, fun k hk => Or.inl hk, Fr.refl _ _⟩
  · cases bs with
    | nil =>
      have e1 : drawV n [] = 0 := by simp [drawV]
      have e2 : drawR n [] = [] := by simp [drawR]
      rw [e1, e2]
      refine (rdraw_none w u sv n [] ht (Or.inr rfl)).mono ?_
      rintro e w' ⟨rfl, rfl⟩
      exact ⟨rfl, sv, ht, fun k hk => Or.inl hk, Fr.refl _ _⟩
    | cons c cs =>
      have e1 : drawV n (c :: cs) = (c.toNat : Int) % n := by simp [drawV, hn]
      have e2 : drawR n (c :: cs) = cs := by simp [drawR, hn]
      rw [e1, e2]
      exact rdraw_some w u sv n c cs ht (by omega) hn2

/-- block m is the reference's timer -/
def RTimerAt (w : World) (m : Nat) (term wait heard : Int) (u : Nat) : Prop := w.heap[m]? = some (.cells #[.int .i64 term, .int .i64 heard, .int .i64 wait, .pointer (some ⟨u, 0, none⟩)] 54 (0, 0))

set_option maxHeartbeats 1000000 in
theorem rnew_ok (w : World) (u : Nat) (sv : Value) (term : Int) (bs : List UInt8) (ht : RT w u sv bs) (h1 : 1 ≤ term) (h2 : term ≤ 1048576) :
    Calls Try.prog 30 #[.int .i64 term, .pointer (some ⟨u, 0, none⟩)] w fun e w' => ∃ m, e = .returned (.tuple #[.pointer (some ⟨m, 0, none⟩), .int .i64 0]) ∧ w.heap.size ≤ m ∧
      RTimerAt w' m term (term + drawV term bs) 0 u ∧ ∃ sv', RT w' u sv' (drawR term bs) ∧ Near w sv sv' ∧ Fr (RS u sv) w w' := by
  obtain ⟨hr1, hr2⟩ := drawV_range term bs h1
  go_enter Try.func30, Try.ntmps30
  go_wp2_with fail
  refine (rdraw_any w u sv term bs ht (by omega)).mono ?_
  rintro e w1 ⟨rfl, sv', ht1, hn1, hf1⟩
  go_wp2_with fail
  go_ret2
  exact ⟨w1.heap.size, rfl, hf1.size, heap_alloc_new w1 _, sv', ht1.fr (Fr.alloc (Fr.refl (fun _ => False) _) _) (fun _ _ => id), hn1, hf1.alloc _⟩

set_option maxHeartbeats 400000 in
theorem rnew_bad (w : World) (p : Option Addr) (term : Int) (h : term < 1 ∨ 1048576 < term) :
    Calls Try.prog 30 #[.int .i64 term, .pointer p] w fun e w' => e = .returned (.tuple #[.pointer none, .int .i64 1]) ∧ w = w' := by
  by_cases h1 : term < 1
  · clear h
    go_enter Try.func30, Try.ntmps30
    go_wp2_with fail
    go_ret2
    exact ⟨rfl, rfl⟩
  · have h2 : 1048576 < term := h.resolve_left h1
    clear h
    go_enter Try.func30, Try.ntmps30
    go_wp2_with fail
    go_ret2
    exact ⟨rfl, rfl⟩

set_option maxHeartbeats 400000 in
theorem good_any (w : World) (n : Int) :
    Calls Try.prog 45 #[.int .i64 n] w fun e w' => e = .returned (.bool (mayT n)) ∧ w = w' := by
  by_cases h1 : 0 ≤ n
  · by_cases h2 : n ≤ 1099511627776
    · have e1 : mayT n = true := decide_eq_true ⟨h1, h2⟩
      rw [e1]
      clear e1
      go_enter Try.func45, Try.ntmps45
      go_wp2
      go_ret
      exact ⟨rfl, rfl⟩
    · have e1 : mayT n = false := decide_eq_false (fun h => h2 h.2)
      rw [e1]
      clear e1
      go_enter Try.func45, Try.ntmps45
      go_wp2
      go_ret
      exact ⟨rfl, rfl⟩
  · have e1 : mayT n = false := decide_eq_false (fun h => h1 h.1)
    rw [e1]
    clear e1
    go_enter Try.func45, Try.ntmps45
    go_wp2
    go_ret
    exact ⟨rfl, rfl⟩
theorem good_yes (w : World) (n : Int) (h : mayT n = true) : Calls Try.prog 45 #[.int .i64 n] w fun e w' => e = .returned (.bool true) ∧ w = w' :=
  (good_any w n).mono fun _ _ h' => by rw [h] at h'; exact h'
theorem good_no (w : World) (n : Int) (h : mayT n = false) : Calls Try.prog 45 #[.int .i64 n] w fun e w' => e = .returned (.bool false) ∧ w = w' :=
  (good_any w n).mono fun _ _ h' => by rw [h] at h'; exact h'

set_option maxHeartbeats 400000 in
theorem rhear_yes (w : World) (m u : Nat) (term wait heard now : Int) (ht : RTimerAt w m term wait heard u) (hm : Hid (mayT now = true)) :
    Calls Try.prog 32 #[.pointer (some ⟨m, 0, none⟩), .int .i64 now] w fun e w' => e = .returned (.tuple #[]) ∧ RTimerAt w' m term wait now u ∧ Fr (· = m) w w' := by
  have c1 := cell_at ht 1
  have f1 := free_at ht 1
  simp at c1
  go_enter Try.func32, Try.ntmps32
  go_wp2_with fail
  refine (good_yes w now hm.out).mono ?_
  rintro e w1 ⟨rfl, rfl⟩
  go_wp2_with fail
  go_end0
  exact ⟨rfl, heap_setCell_at ht 1 _, Fr.setCell (Fr.refl _ _) _ _ (fun _ => rfl)⟩
set_option maxHeartbeats 400000 in
theorem rhear_no (w : World) (m : Nat) (now : Int) (hm : Hid (mayT now = false)) :
    Calls Try.prog 32 #[.pointer (some ⟨m, 0, none⟩), .int .i64 now] w fun e w' => e = .returned (.tuple #[]) ∧ w = w' := by
  go_enter Try.func32, Try.ntmps32
  go_wp2_with fail
  refine (good_no w now hm.out).mono ?_
  rintro e w1 ⟨rfl, rfl⟩
  go_wp2_with fail
  go_end0
  exact ⟨rfl, rfl⟩
set_option maxHeartbeats 400000 in
theorem ragain_no (w : World) (m : Nat) (now : Int) (hm : Hid (mayT now = false)) :
    Calls Try.prog 33 #[.pointer (some ⟨m, 0, none⟩), .int .i64 now] w fun e w' => e = .returned (.tuple #[]) ∧ w = w' := by
  go_enter Try.func33, Try.ntmps33
  go_wp2_with fail
  refine (good_no w now hm.out).mono ?_
  rintro e w1 ⟨rfl, rfl⟩
  go_wp2_with fail
  go_end0
  exact ⟨rfl, rfl⟩

set_option maxHeartbeats 1000000 in
theorem ragain_yes (w : World) (m u : Nat) (sv : Value) (bs : List UInt8) (term wait heard now : Int) (ht : RTimerAt w m term wait heard u) (h1 : 0 < term) (h2 : term ≤ 1048576) (hm : Hid (mayT now = true)) (hb : RT w u sv bs) (hmu : Hid (¬ RS u sv m)) :
    Calls Try.prog 33 #[.pointer (some ⟨m, 0, none⟩), .int .i64 now] w fun e w' => e = .returned (.tuple #[]) ∧ RTimerAt w' m term (term + drawV term bs) now u ∧
      ∃ sv', RT w' u sv' (drawR term bs) ∧ Near w sv sv' ∧ Fr (fun k => k = m ∨ RS u sv k) w w' := by
  obtain ⟨hr1, hr2⟩ := drawV_range term bs (by omega)
  have hw : IntKind.i64.wrap (term + drawV term bs) = term + drawV term bs := IntWalk.i64_in _ (by omega)
  have HW := Lib.hid hw
  clear hw
  have c0 := cell_at ht 0
  have c1 := cell_at ht 1
  have c2 := cell_at ht 2
  have c3 := cell_at ht 3
  have f1 := free_at ht 1
  have f2 := free_at ht 2
  simp at c0 c1 c2 c3
  go_enter Try.func33, Try.ntmps33
  go_wp2_with fail
  refine (good_yes w now hm.out).mono ?_
  rintro e w1 ⟨rfl, rfl⟩
  go_wp2_with fail
  have o1 := heap_setCell_at ht 1 (.int .i64 now)
  have F1 : Fr (· = m) w (w.setCell ⟨m, 1, none⟩ (.int .i64 now)) := Fr.setCell (Fr.refl _ _) _ _ (fun _ => rfl)
  have hb1 := hb.fr F1 (fun k hk e => hmu.out (e ▸ hk))
  clear c0 c1 c2 c3 f1 f2
  generalize w.setCell ⟨m, 1, none⟩ (.int .i64 now) = wx at *
  have c0 := cell_at o1 0
  have c2 := cell_at o1 2
  have c3 := cell_at o1 3
  have f2 := free_at o1 2
  simp at c0 c2 c3
  go_region_held3 (fun w' => w'.cell? ⟨m, 0, none⟩ = some (.int .i64 term) ∧ w'.cell? ⟨m, 3, none⟩ = some (.pointer (some ⟨u, 0, none⟩))) (simp [*, World.cell?_setCell_other]) (first | (go_at_call 34; refine (rdraw_any _ u sv term bs (hb1.fr (Fr.drew (Fr.refl (fun _ => False) _)) (fun _ _ => id)) (by omega)).mono ?_; rintro e w2 ⟨rfl, sv', ht1, hn1, hf1⟩; have d0 := hf1.cell_some c0 hmu.out; have d3 := hf1.cell_some c3 hmu.out; have d2 := hf1.cell_some c2 hmu.out; have k2 : w2.frozen? ⟨m, 2, none⟩ = false := (hf1.frozen (lt_of_obj o1) hmu.out).trans f2; clear c0 c2 c3 f2))
  go_end0
  rw [HW.out]
  have o2 : w2.heap[m]? = _ := hf1.obj o1 hmu.out
  have o3 := heap_setCell_at o2 2 (.int .i64 (term + drawV term bs))
  refine ⟨rfl, o3, sv', ?_, ?_, ?_⟩
  · refine ht1.fr (S := (· = m)) (Fr.setCell (S := (· = m)) (Fr.refl _ _) ⟨m, 2, none⟩ _ (fun _ => rfl)) ?_
    rintro k hk rfl
    rcases hk with rfl | hk
    · exact hmu.out (Or.inl rfl)
    · rcases hn1 k hk with h | h
      · exact hmu.out (Or.inr h)
      · have := lt_of_obj o1
        exact absurd h (Nat.not_le.2 this)
  · intro k hk
    rcases hn1 k hk with h | h
    · exact Or.inl h
    · exact Or.inr (Nat.le_trans F1.size h)
  · exact Fr.setCell (S := fun k => k = m ∨ RS u sv k) (Fr.trans (F1.mono (fun _ _ h => Or.inl h)) (Fr.trans (Fr.drew (Fr.refl _ wx)) hf1 (fun y _ hy => hy)) (fun y _ hy => Or.inr hy)) ⟨m, 2, none⟩ _ (fun _ => Or.inl rfl)

set_option maxHeartbeats 400000 in
theorem rdue_any (w : World) (m u : Nat) (term wait heard now : Int) (ht : RTimerAt w m term wait heard u) (hh : 0 ≤ heard) (hh2 : heard ≤ 1099511627776) :
    Calls Try.prog 35 #[.pointer (some ⟨m, 0, none⟩), .int .i64 now] w fun e w' => e = .returned (.bool (dueT wait heard now)) ∧ ∃ n, w' = w.drewN n := by
  have c1 := cell_at ht 1
  have c2 := cell_at ht 2
  simp at c1 c2
  cases hm : mayT now with
  | true =>
    have hm' := hm
    simp only [mayT, decide_eq_true_eq] at hm'
    obtain ⟨n1, n2⟩ := hm'
    have hd : dueT wait heard now = decide (wait ≤ now - heard) := by simp [dueT, hm]
    rw [hd]
    have HM := Lib.hid hm
    clear hm hd
    go_enter Try.func35, Try.ntmps35
    go_wp2_with fail
    go_quiet ((go_at_call 45; exact quiet_same (good_yes _ now HM.out)))
    go_wp2_with fail
    go_ret
    exact ⟨rfl, _, rfl⟩
  | false =>
    have hd : dueT wait heard now = false := by simp [dueT, hm]
    rw [hd]
    have HM := Lib.hid hm
    clear hm hd
    go_enter Try.func35, Try.ntmps35
    go_wp2_with fail
    go_quiet ((go_at_call 45; exact quiet_same (good_no _ now HM.out)))
    go_wp2_with fail
    go_ret
    exact ⟨rfl, _, rfl⟩

end Go.Proofs.Ytjfdpggbpmicnaa.T
