/- What each function of package timer does to tapes and timers in memory. Conditions stand at each theorem. -/
import Derived.Test.YtjfdpggbpmicnaaBase
namespace Go.Proofs.Ytjfdpggbpmicnaa.T
open Go.RowKit Go.Proofs.Ytjfdpggbpmicnaa.M
set_option linter.unusedVariables false

theorem info5 : (Try.prog.info? 5).map (fun i => (i.zero, i.size, i.bytes)) = some (some (.int .u8 0), 1, 1) := by kernel_rfl

/-- block b is a tape with the bytes bs; these lie in none of the blocks X -/
def TapeX (X : Nat → Prop) (w : World) (b : Nat) (bs : List UInt8) : Prop := ∃ sv, w.heap[b]? = some (.cells #[.bool true, sv] 60 (0, 0)) ∧ OB w sv bs ∧ ∀ k, sv.ownBlock = some k → bs ≠ [] → ¬ X k
def TapeAt (w : World) (b : Nat) (bs : List UInt8) : Prop := TapeX (fun _ => False) w b bs
theorem TapeX.fr {X S : Nat → Prop} {w w' : World} {b : Nat} {bs : List UInt8} (h : TapeX X w b bs) (hf : Fr S w w') (hb : ¬ S b) (hs : ∀ g, S g → ¬ Tag w g 5) : TapeX X w' b bs := by
  obtain ⟨sv, h1, h2, h3⟩ := h
  exact ⟨sv, hf.obj h1 hb, h2.fr hf hs, h3⟩
/-- what turns only blocks that are none of the tape's -/
theorem TapeX.frX {X S : Nat → Prop} {w w' : World} {b : Nat} {bs : List UInt8} (h : TapeX X w b bs) (hf : Fr S w w') (hb : ¬ S b) (hs : ∀ g, S g → X g ∨ ¬ Tag w g 5) : TapeX X w' b bs := by
  obtain ⟨sv, h1, h2, h3⟩ := h
  refine ⟨sv, hf.obj h1 hb, ⟨h2.1.fr hf (fun k hk hx hS => ?_), fun g hg hx => (h2.2 g hg hx).fr hf (fun hS => ?_)⟩, h3⟩
  · have hx' : bs ≠ [] := by rintro rfl; exact hx rfl
    exact (hs k hS).elim (h3 k hk hx') (fun h => h (h2.2 k hk hx'))
  · exact (hs g hS).elim (h3 g hg hx) (fun h => h (h2.2 g hg hx))
theorem TapeX.weaken {X X' : Nat → Prop} {w : World} {b : Nat} {bs : List UInt8} (h : TapeX X w b bs) (hx : ∀ k, k < w.heap.size → X' k → X k) : TapeX X' w b bs := by
  obtain ⟨sv, h1, h2, h3⟩ := h
  exact ⟨sv, h1, h2, fun k hk hb hX => h3 k hk hb (hx k (Tag.lt (h2.2 k hk hb)) hX)⟩
theorem TapeX.below {X : Nat → Prop} {w w' : World} {b : Nat} {bs : List UInt8} (h : TapeX X w b bs) (hb : Below w.heap.size w w') : TapeX X w' b bs := h.fr (Fr.of_below (S := fun _ => False) hb) id (fun _ h => h.elim)
theorem TapeAt.fr {S : Nat → Prop} {w w' : World} {b : Nat} {bs : List UInt8} (h : TapeAt w b bs) (hf : Fr S w w') (hb : ¬ S b) (hs : ∀ g, S g → ¬ Tag w g 5) : TapeAt w' b bs := TapeX.fr h hf hb hs
theorem TapeAt.below {w w' : World} {b : Nat} {bs : List UInt8} (h : TapeAt w b bs) (hb : Below w.heap.size w w') : TapeAt w' b bs := TapeX.below h hb

set_option maxHeartbeats 400000 in
theorem newTape_any (w : World) :
    Calls Try.prog 21 #[] w fun e w' => e = .returned (.pointer (some ⟨w.heap.size, 0, none⟩)) ∧ TapeAt w' w.heap.size [] ∧ Below w.heap.size w w' := by
  go_enter Try.func21, Try.ntmps21
  go_wp2_with fail
  go_ret
  exact ⟨rfl, ⟨_, heap_alloc_new w _, OB.nil _, fun _ _ h => absurd rfl h⟩, (Below.refl _ _).alloc (Nat.le_refl _) _⟩

set_option maxHeartbeats 400000 in
theorem add_ok {X : Nat → Prop} (w : World) (b : Nat) (bs cs : List UInt8) (v : Value) (ht : TapeX X w b bs) (hv : Bytes w v cs) (hl : cs.length + bs.length ≤ 65536) (hX : ∀ k, X k → k < w.heap.size) :
    Calls Try.prog 22 #[.pointer (some ⟨b, 0, none⟩), v] w fun e w' => e = .returned (.int .i64 0) ∧ TapeX X w' b (bs ++ cs) ∧ Fr (· = b) w w' := by
  obtain ⟨sv, h1, h2, h3⟩ := ht
  have H3 := Lib.hid h3
  have HX := Lib.hid hX
  clear h3 hX
  obtain ⟨a, cap, rfl, hcap, hmax⟩ := hv.shape
  obtain ⟨a', cap', rfl, hcap', hmax'⟩ := h2.1.shape
  have c0 := cell_at h1 0
  have c1 := cell_at h1 1
  have f1 := free_at h1 1
  simp at c0 c1
  have hb := lt_of_obj h1
  have H1 := Lib.hid h1
  obtain ⟨i, hi, hz0, hz1, hz2⟩ := info_parts info5
  have Hi := Lib.hid hi
  have Hz0 := Lib.hid hz0
  have Hz1 := Lib.hid hz1
  have Hz2 := Lib.hid hz2
  clear hi hz0 hz1 hz2 h1
  go_enter Try.func22, Try.ntmps22
  go_wp2_with (first
    | (at_builtin; refine wpList_append_owns rfl _ _ 34 rfl w.heap.size 5 i (.int .u8 0) 1 1 Try.underlying34 Hi.out Hz0.out Hz1.out Hz2.out rfl (.slice none 0 0) 0 [] rfl (Owns.nil _ _ _ _) _ bs.length (bs.map u8) rfl h2.1 (u8_one bs) bs.length (Nat.zero_add _) (bs.map u8) rfl ?ha ?hc ?hd ?_; (case ha => omega); (case hc => omega); (case hd => exact Nat.le_refl _); intro q1 k1 w1 ho1 hk1 hm1 hg1 hq1; have F1 : Fr (fun _ => False) w w1 := Fr.of_grown hg1 (by simp [Value.ownBlock]); have c11 := F1.cell_some c1 id; have f11 := (F1.frozen (o := 1) hb id).trans f1; clear c1 f1)
    | (at_builtin; refine wpList_append_owns rfl _ _ 34 rfl w.heap.size 5 i (.int .u8 0) 1 1 Try.underlying34 Hi.out Hz0.out Hz1.out Hz2.out rfl _ _ _ rfl ho1 _ cs.length (cs.map u8) rfl (hv.fr F1 (fun _ _ _ => id)) (u8_one cs) (bs.length + cs.length) rfl ((bs ++ cs).map u8) List.map_append.symm ?ha ?hc ?hd ?_; (case ha => omega); (case hc => omega); (case hd => exact F1.size); intro q2 k2 w2 ho2 hk2 hm2 hg2 hq2; have G2 : Fr (w.heap.size ≤ ·) w1 w2 := Fr.of_grown hg2 (fun k hk _ => (ho1.base_le k hk).1); have F2 : Fr (fun _ => False) w w2 := F1.trans G2 (fun x h1 h2 => by omega); have c12 := G2.cell_some c11 (by omega); have f12 := (G2.frozen (o := 1) (Nat.lt_of_lt_of_le hb F1.size) (by omega)).trans f11; clear c11 f11))
  go_ret
  refine ⟨rfl, ⟨_, heap_setCell_at (F2.obj H1.out id) 1 _, OB.of_owns (ho2.fr (Fr.setCell (S := (· = b)) (Fr.refl _ _) _ _ (fun _ => rfl)) (fun g hg e => by have := (ho2.base_le g hg).1; omega)), fun k hk _ hx => by have h1 := (ho2.base_le k hk).1; have h2 := HX.out k hx; omega⟩, (F2.mono (fun _ _ h => h.elim)).setCell _ _ (fun _ => rfl)⟩

set_option maxHeartbeats 400000 in
theorem add_full {X : Nat → Prop} (w : World) (b : Nat) (bs cs : List UInt8) (v : Value) (ht : TapeX X w b bs) (hv : Bytes w v cs) (hl : 65536 < cs.length + bs.length) :
    Calls Try.prog 22 #[.pointer (some ⟨b, 0, none⟩), v] w fun e w' => e = .returned (.int .i64 6) ∧ w = w' := by
  obtain ⟨sv, h1, h2, h3⟩ := ht
  have H3 := Lib.hid h3
  clear h3
  obtain ⟨a, cap, rfl, hcap, hmax⟩ := hv.shape
  obtain ⟨a', cap', rfl, hcap', hmax'⟩ := h2.1.shape
  have c0 := cell_at h1 0
  have c1 := cell_at h1 1
  simp at c0 c1
  clear h1
  go_enter Try.func22, Try.ntmps22
  go_wp2_with fail
  go_ret
  exact ⟨rfl, rfl⟩

set_option maxHeartbeats 400000 in
theorem left_any {X : Nat → Prop} (w : World) (b : Nat) (bs : List UInt8) (ht : TapeX X w b bs) :
    Calls Try.prog 26 #[.pointer (some ⟨b, 0, none⟩)] w fun e w' => e = .returned (.int .i64 bs.length) ∧ w = w' := by
  obtain ⟨sv, h1, h2, h3⟩ := ht
  have H3 := Lib.hid h3
  clear h3
  obtain ⟨a', cap', rfl, hcap', hmax'⟩ := h2.1.shape
  have c1 := cell_at h1 1
  simp at c1
  clear h1
  go_enter Try.func26, Try.ntmps26
  go_wp2_with fail
  go_ret
  exact ⟨rfl, rfl⟩

set_option maxHeartbeats 400000 in
theorem take_any {X : Nat → Prop} (w : World) (b : Nat) (c : UInt8) (cs : List UInt8) (ht : TapeX X w b (c :: cs)) :
    Calls Try.prog 43 #[.pointer (some ⟨b, 0, none⟩)] w fun e w' => e = .returned (.int .i64 c.toNat) ∧ TapeX X w' b cs ∧ Fr (· = b) w w' := by
  obtain ⟨sv, h1, h2, h3⟩ := ht
  have H3 := Lib.hid h3
  clear h3
  obtain ⟨g, off, cap, rfl, hcap, hmax, hc⟩ := Reads.cons1 h2.1
  have c1 := cell_at h1 1
  have f1 := free_at h1 1
  simp at c1
  have H1 := Lib.hid h1
  clear h1
  have hc' : w.cell? ⟨g, off, none⟩ = some (.int .u8 c.toNat) := hc
  clear hc
  have hcb : c.toNat < 256 := c.toNat_lt
  have F : ∀ u, Fr (· = b) w (w.setCell ⟨b, 1, none⟩ u) := fun u => Fr.setCell (Fr.refl _ _) _ _ (fun _ => rfl)
  have hT := h2.2 g rfl (by simp)
  have hgb : g ≠ b := by
    rintro rfl
    exact Tag.not H1.out (by decide) hT
  by_cases hk : cap = 1
  · have hcs : cs = [] := List.eq_nil_of_length_eq_zero (by omega)
    subst hcs hk
    go_enter Try.func43, Try.ntmps43
    go_wp2_with fail
    go_ret
    refine ⟨rfl, ⟨_, heap_setCell_at H1.out 1 _, ⟨Reads.empty _ _ _ _ (by simp [maxLen]), fun _ _ h => absurd rfl h⟩, fun _ _ h => absurd rfl h⟩, F _⟩
  · have hR : Reads w 1 (.slice (some ⟨g, off + 1, none⟩) cs.length (cap - 1)) cs.length (cs.map u8) := Reads.tail1 h2.1
    go_enter Try.func43, Try.ntmps43
    go_wp2_with fail
    go_ret
    refine ⟨rfl, ⟨_, heap_setCell_at H1.out 1 _, ⟨hR.fr (F _) (fun x hx _ => by cases hx; exact hgb), fun x hx _ => by cases hx; exact hT.fr (F _) hgb⟩, fun k hk _ => by cases hk; exact H3.out g rfl (by simp)⟩, F _⟩

set_option maxHeartbeats 400000 in
theorem below_any {X : Nat → Prop} (w : World) (b : Nat) (n : Int) (c : UInt8) (cs : List UInt8) (ht : TapeX X w b (c :: cs)) (hn : 2 ≤ n) (hn2 : n ≤ 9223372036854775807) :
    Calls Try.prog 42 #[.int .i64 n, .func (.func 43) #[.pointer (some ⟨b, 0, none⟩)] #[]] w fun e w' => e = .returned (.int .i64 ((c.toNat : Int) % n)) ∧ TapeX X w' b cs ∧ Fr (· = b) w w' := by
  have hcb : c.toNat < 256 := c.toNat_lt
  go_enter Try.func42, Try.ntmps42
  go_wp2_with fail
  refine (take_any w b c cs ht).mono ?_
  rintro e w1 ⟨rfl, ht1, hf1⟩
  go_wp2_with fail
  go_ret
  exact ⟨rfl, ht1, hf1⟩

/-- what a draw tells, and what is left -/
def drawV (n : Int) (bs : List UInt8) : Int := if n < 2 then 0 else match bs with | [] => 0 | c :: _ => (c.toNat : Int) % n
def drawR (n : Int) (bs : List UInt8) : List UInt8 := if n < 2 then bs else bs.tail

set_option maxHeartbeats 400000 in
theorem draw_any {X : Nat → Prop} (w : World) (b : Nat) (n : Int) (bs : List UInt8) (ht : TapeX X w b bs) (hn2 : n ≤ 9223372036854775807) :
    Calls Try.prog 25 #[.pointer (some ⟨b, 0, none⟩), .int .i64 n] w fun e w' => e = .returned (.int .i64 (drawV n bs)) ∧ TapeX X w' b (drawR n bs) ∧ Fr (· = b) w w' := by
  by_cases hn : n < 2
  · have e1 : drawV n bs = 0 := by simp [drawV, hn]
    have e2 : drawR n bs = bs := by simp [drawR, hn]
    rw [e1, e2]
    clear e1 e2
    go_enter Try.func25, Try.ntmps25
    go_wp2_with fail
    go_ret
    exact ⟨rfl, ht, Fr.refl _ _⟩
  · cases bs with
    | nil =>
      have e1 : drawV n [] = 0 := by simp [drawV]
      have e2 : drawR n [] = [] := by simp [drawR]
      rw [e1, e2]
      clear e1 e2
      go_enter Try.func25, Try.ntmps25
      go_wp2_with fail
      refine (left_any w b [] ht).mono ?_
      rintro e w1 ⟨rfl, rfl⟩
      go_wp2_with fail
      go_ret
      exact ⟨rfl, ht, Fr.refl _ _⟩
    | cons c cs =>
      have e1 : drawV n (c :: cs) = (c.toNat : Int) % n := by simp [drawV, hn]
      have e2 : drawR n (c :: cs) = cs := by simp [drawR, hn]
      rw [e1, e2]
      clear e1 e2
      go_enter Try.func25, Try.ntmps25
      go_wp2_with fail
      refine (left_any w b (c :: cs) ht).mono ?_
      rintro e w1 ⟨rfl, rfl⟩
      go_wp2_with fail
      refine (below_any w b n c cs ht (by omega) hn2).mono ?_
      rintro e w1 ⟨rfl, ht1, hf1⟩
      go_wp2_with fail
      go_ret
      exact ⟨rfl, ht1, hf1⟩


theorem drawV_range (n : Int) (bs : List UInt8) (hn : 1 ≤ n) : 0 ≤ drawV n bs ∧ drawV n bs < n := by
  unfold drawV
  by_cases h : n < 2
  · rw [if_pos h]; omega
  · rw [if_neg h]
    cases bs with
    | nil => simp; omega
    | cons c cs => exact ⟨Int.emod_nonneg _ (by omega), Int.emod_lt_of_pos _ (by omega)⟩

/-- block x is a timer -/
def TimerAt (w : World) (x : Nat) (term wait heard : Int) (b : Nat) : Prop := w.heap[x]? = some (.cells #[.int .i64 term, .int .i64 wait, .int .i64 heard, .pointer (some ⟨b, 0, none⟩)] 62 (0, 0))

set_option maxHeartbeats 400000 in
theorem new_ok {X : Nat → Prop} (w : World) (b : Nat) (term : Int) (bs : List UInt8) (ht : TapeX X w b bs) (h1 : 1 ≤ term) (h2 : term ≤ 1048576) :
    Calls Try.prog 23 #[.int .i64 term, .pointer (some ⟨b, 0, none⟩)] w fun e w' => ∃ x, e = .returned (.tuple #[.pointer (some ⟨x, 0, none⟩), .int .i64 0]) ∧ w.heap.size ≤ x ∧
      TimerAt w' x term (term + drawV term bs) 0 b ∧ TapeX X w' b (drawR term bs) ∧ Fr (· = b) w w' := by
  have hr := drawV_range term bs h1
  obtain ⟨hr1, hr2⟩ := hr
  go_enter Try.func23, Try.ntmps23
  go_wp2_with fail
  refine (draw_any w b term bs ht (by omega)).mono ?_
  rintro e w1 ⟨rfl, ht1, hf1⟩
  go_wp2_with fail
  go_ret2
  exact ⟨w1.heap.size, rfl, hf1.size, heap_alloc_new w1 _, TapeX.below ht1 ((Below.refl _ _).alloc (Nat.le_refl _) _), hf1.alloc _⟩

set_option maxHeartbeats 400000 in
theorem new_bad (w : World) (p : Option Addr) (term : Int) (h : term < 1 ∨ 1048576 < term ∨ p = none) :
    Calls Try.prog 23 #[.int .i64 term, .pointer p] w fun e w' => e = .returned (.tuple #[.pointer none, .int .i64 1]) ∧ w = w' := by
  by_cases h1 : term < 1
  · clear h
    go_enter Try.func23, Try.ntmps23
    go_wp2_with fail
    go_ret2
    exact ⟨rfl, rfl⟩
  · by_cases h2 : 1048576 < term
    · clear h
      go_enter Try.func23, Try.ntmps23
      go_wp2_with fail
      go_ret2
      exact ⟨rfl, rfl⟩
    · have h3 : p = none := by
        rcases h with h | h | h
        · exact absurd h h1
        · exact absurd h h2
        · exact h
      subst h3
      clear h
      go_enter Try.func23, Try.ntmps23
      go_wp2_with fail
      go_ret2
      exact ⟨rfl, rfl⟩

set_option maxHeartbeats 400000 in
theorem made_any (w : World) (x b : Nat) (term wait heard : Int) (ht : TimerAt w x term wait heard b) (h1 : 0 < term) :
    Calls Try.prog 41 #[.pointer (some ⟨x, 0, none⟩)] w fun e w' => e = .returned (.bool true) ∧ w = w' := by
  have c0 := cell_at ht 0
  simp at c0
  go_enter Try.func41, Try.ntmps41
  go_wp2
  go_ret
  exact ⟨rfl, rfl⟩

set_option maxHeartbeats 400000 in
theorem wait_any (w : World) (x b : Nat) (term wait heard : Int) (ht : TimerAt w x term wait heard b) (h1 : 0 < term) :
    Calls Try.prog 24 #[.pointer (some ⟨x, 0, none⟩)] w fun e w' => e = .returned (.int .i64 wait) ∧ w = w' := by
  have c1 := cell_at ht 1
  simp at c1
  go_enter Try.func24, Try.ntmps24
  go_wp2_with fail
  refine (made_any w x b term wait heard ht h1).mono ?_
  rintro e w1 ⟨rfl, rfl⟩
  go_wp2_with fail
  go_ret
  exact ⟨rfl, rfl⟩

/-- may a number be a time? -/
def mayT (n : Int) : Bool := decide (0 ≤ n ∧ n ≤ 1099511627776)

set_option maxHeartbeats 400000 in
theorem may_any (w : World) (n : Int) :
    Calls Try.prog 44 #[.int .i64 n] w fun e w' => e = .returned (.bool (mayT n)) ∧ w = w' := by
  by_cases h1 : 0 ≤ n
  · by_cases h2 : n ≤ 1099511627776
    · have e1 : mayT n = true := decide_eq_true ⟨h1, h2⟩
      rw [e1]
      clear e1
      go_enter Try.func44, Try.ntmps44
      go_wp2
      go_ret
      exact ⟨rfl, rfl⟩
    · have e1 : mayT n = false := decide_eq_false (fun h => h2 h.2)
      rw [e1]
      clear e1
      go_enter Try.func44, Try.ntmps44
      go_wp2
      go_ret
      exact ⟨rfl, rfl⟩
  · have e1 : mayT n = false := decide_eq_false (fun h => h1 h.1)
    rw [e1]
    clear e1
    go_enter Try.func44, Try.ntmps44
    go_wp2
    go_ret
    exact ⟨rfl, rfl⟩

theorem may_yes (w : World) (n : Int) (h : mayT n = true) : Calls Try.prog 44 #[.int .i64 n] w fun e w' => e = .returned (.bool true) ∧ w = w' :=
  (may_any w n).mono fun _ _ h' => by rw [h] at h'; exact h'
theorem may_no (w : World) (n : Int) (h : mayT n = false) : Calls Try.prog 44 #[.int .i64 n] w fun e w' => e = .returned (.bool false) ∧ w = w' :=
  (may_any w n).mono fun _ _ h' => by rw [h] at h'; exact h'

/-- is it due? -/
def dueT (wait heard now : Int) : Bool := mayT now && decide (wait ≤ now - heard)

set_option maxHeartbeats 400000 in
theorem due_any (w : World) (x b : Nat) (term wait heard now : Int) (ht : TimerAt w x term wait heard b) (h1 : 0 < term) (hh : 0 ≤ heard) (hh2 : heard ≤ 1099511627776) :
    Calls Try.prog 28 #[.pointer (some ⟨x, 0, none⟩), .int .i64 now] w fun e w' => e = .returned (.bool (dueT wait heard now)) ∧ ∃ n, w' = w.drewN n := by
  have c1 := cell_at ht 1
  have c2 := cell_at ht 2
  simp at c1 c2
  cases hm : mayT now with
  | true =>
    have hm' := hm
    simp only [mayT, decide_eq_true_eq] at hm'
    obtain ⟨n1, n2⟩ := hm'
    have hd : dueT wait heard now = decide (wait ≤ now - heard) := by simp [dueT, hm]
    rw [hd]
    have HM := Lib.hid hm
    clear hm hd
    go_enter Try.func28, Try.ntmps28
    go_wp2_with fail
    go_quiet ((first | (go_at_call 41; exact quiet_same (made_any _ x b term wait heard ht h1)) | (go_at_call 44; exact quiet_same (may_yes _ now HM.out))))
    go_wp2_with fail
    go_ret
    exact ⟨rfl, _, rfl⟩
  | false =>
    have hd : dueT wait heard now = false := by simp [dueT, hm]
    rw [hd]
    have HM := Lib.hid hm
    clear hm hd
    go_enter Try.func28, Try.ntmps28
    go_wp2_with fail
    go_quiet ((first | (go_at_call 41; exact quiet_same (made_any _ x b term wait heard ht h1)) | (go_at_call 44; exact quiet_same (may_no _ now HM.out))))
    go_wp2_with fail
    go_ret
    exact ⟨rfl, _, rfl⟩

set_option maxHeartbeats 400000 in
theorem heard_yes (w : World) (x b : Nat) (term wait heard now : Int) (ht : TimerAt w x term wait heard b) (h1 : 0 < term) (hm : Hid (mayT now = true)) :
    Calls Try.prog 31 #[.pointer (some ⟨x, 0, none⟩), .int .i64 now] w fun e w' => e = .returned (.tuple #[]) ∧ TimerAt w' x term wait now b ∧ Fr (· = x) w w' := by
  have c2 := cell_at ht 2
  have f2 := free_at ht 2
  simp at c2
  go_enter Try.func31, Try.ntmps31
  go_wp2_with fail
  refine (made_any w x b term wait heard ht h1).mono ?_
  rintro e w1 ⟨rfl, rfl⟩
  go_wp2_with fail
  refine (may_yes w now hm.out).mono ?_
  rintro e w1 ⟨rfl, rfl⟩
  go_wp2_with fail
  go_end0
  exact ⟨rfl, heap_setCell_at ht 2 _, Fr.setCell (Fr.refl _ _) _ _ (fun _ => rfl)⟩

set_option maxHeartbeats 400000 in
theorem heard_no (w : World) (x b : Nat) (term wait heard now : Int) (ht : TimerAt w x term wait heard b) (h1 : 0 < term) (hm : Hid (mayT now = false)) :
    Calls Try.prog 31 #[.pointer (some ⟨x, 0, none⟩), .int .i64 now] w fun e w' => e = .returned (.tuple #[]) ∧ w = w' := by
  go_enter Try.func31, Try.ntmps31
  go_wp2_with fail
  refine (made_any w x b term wait heard ht h1).mono ?_
  rintro e w1 ⟨rfl, rfl⟩
  go_wp2_with fail
  refine (may_no w now hm.out).mono ?_
  rintro e w1 ⟨rfl, rfl⟩
  go_wp2_with fail
  go_end0
  exact ⟨rfl, rfl⟩

set_option maxHeartbeats 400000 in
theorem again_yes {X : Nat → Prop} (w : World) (x b : Nat) (bs : List UInt8) (term wait heard now : Int) (ht : TimerAt w x term wait heard b) (h1 : 0 < term) (h2 : term ≤ 1048576) (hm : Hid (mayT now = true)) (hb : TapeX X w b bs) (hxb : x ≠ b) :
    Calls Try.prog 27 #[.pointer (some ⟨x, 0, none⟩), .int .i64 now] w fun e w' => e = .returned (.tuple #[]) ∧ TimerAt w' x term (term + drawV term bs) now b ∧ TapeX X w' b (drawR term bs) ∧ Fr (fun k => k = x ∨ k = b) w w' := by
  obtain ⟨hr1, hr2⟩ := drawV_range term bs (by omega)
  have c0 := cell_at ht 0
  have c3 := cell_at ht 3
  simp at c0 c3
  go_enter Try.func27, Try.ntmps27
  go_wp2_with fail
  refine (made_any w x b term wait heard ht h1).mono ?_
  rintro e w1 ⟨rfl, rfl⟩
  go_wp2_with fail
  refine (may_yes w now hm.out).mono ?_
  rintro e w1 ⟨rfl, rfl⟩
  go_wp2_with fail
  have f1 := free_at ht 1
  have f2 := free_at ht 2
  have c1 := cell_at ht 1
  have c2 := cell_at ht 2
  simp at c1 c2
  go_region_held3 (fun w' => w'.cell? ⟨x, 0, none⟩ = some (.int .i64 term) ∧ w'.cell? ⟨x, 3, none⟩ = some (.pointer (some ⟨b, 0, none⟩))) (simp [*, World.cell?_setCell_other]) (first | (go_at_call 25; refine (draw_any _ b term bs (TapeX.fr hb (Fr.drew (Fr.refl (fun _ => False) _)) id (fun _ h => h.elim)) (by omega)).mono ?_; rintro e w1 ⟨rfl, ht1, hf1⟩; have d0 := hf1.cell_some c0 hxb; have d3 := hf1.cell_some c3 hxb; have d1 := hf1.cell_some c1 hxb; have d2 := hf1.cell_some c2 hxb; have k1 : w1.frozen? ⟨x, 1, none⟩ = false := (hf1.frozen (lt_of_obj ht) hxb).trans f1; have k2 : w1.frozen? ⟨x, 2, none⟩ = false := (hf1.frozen (lt_of_obj ht) hxb).trans f2; clear c0 c1 c2 c3 f1 f2))
  go_end0
  have hw : IntKind.i64.wrap (term + drawV term bs) = term + drawV term bs := IntWalk.i64_in _ (by omega)
  rw [hw]
  have o1 : w1.heap[x]? = some (.cells #[.int .i64 term, .int .i64 wait, .int .i64 heard, .pointer (some ⟨b, 0, none⟩)] 62 (0, 0)) := hf1.obj ht hxb
  have o2 := heap_setCell_at o1 2 (.int .i64 now)
  have o3 := heap_setCell_at o2 1 (.int .i64 (term + drawV term bs))
  refine ⟨rfl, o3, ?_, ?_⟩
  · refine TapeX.fr ht1 (S := (· = x)) (Fr.setCell (S := (· = x)) (Fr.setCell (S := (· = x)) (Fr.refl _ _) ⟨x, 2, none⟩ _ (fun _ => rfl)) ⟨x, 1, none⟩ _ (fun _ => rfl)) (fun h => hxb h.symm) ?_
    rintro g rfl
    exact Tag.not o1 (by decide)
  · exact Fr.setCell (S := fun k => k = x ∨ k = b) (Fr.setCell (S := fun k => k = x ∨ k = b) ((Fr.drew (Fr.refl _ w)).trans hf1 (fun y _ hy => Or.inr hy)) ⟨x, 2, none⟩ _ (fun _ => Or.inl rfl)) ⟨x, 1, none⟩ _ (fun _ => Or.inl rfl)

set_option maxHeartbeats 400000 in
theorem again_no (w : World) (x b : Nat) (term wait heard now : Int) (ht : TimerAt w x term wait heard b) (h1 : 0 < term) (hm : Hid (mayT now = false)) :
    Calls Try.prog 27 #[.pointer (some ⟨x, 0, none⟩), .int .i64 now] w fun e w' => e = .returned (.tuple #[]) ∧ w = w' := by
  go_enter Try.func27, Try.ntmps27
  go_wp2_with fail
  refine (made_any w x b term wait heard ht h1).mono ?_
  rintro e w1 ⟨rfl, rfl⟩
  go_wp2_with fail
  refine (may_no w now hm.out).mono ?_
  rintro e w1 ⟨rfl, rfl⟩
  go_wp2_with fail
  go_end0
  exact ⟨rfl, rfl⟩

end Go.Proofs.Ytjfdpggbpmicnaa.T
