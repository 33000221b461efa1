/- The ballot functions of chapter 15 and of the reference, each with what it answers. Conditions: the numbers are Go ints. -/
import Derived.Test.YtjfdpggbpmicnaaRows
import Derived.WalkKit
import Derived.WalkSpells
import Derived.WalkLawsBesides
import Derived.Lib.Hide
import Derived.Deep.QuietTactic
import Derived.BigQuiet
namespace Go.Proofs.Ytjfdpggbpmicnaa.B
open Go.RowKit
set_option linter.unusedVariables false

/-- there is such a try -/
def mayB (a b : Int) : Bool := decide (0 ≤ a ∧ a ≤ 1073741824 ∧ 0 ≤ b ∧ b < 15)
theorem mayB_yes {a b : Int} (h : 0 ≤ a ∧ a ≤ 1073741824 ∧ 0 ≤ b ∧ b < 15) : mayB a b = true := decide_eq_true h
theorem mayB_no {a b : Int} (h : ¬ (0 ≤ a ∧ a ≤ 1073741824 ∧ 0 ≤ b ∧ b < 15)) : mayB a b = false := decide_eq_false h
theorem bcell {W w1 : World} (hb : Below W.heap.size W w1) : (∀ b o, b < W.heap.size → w1.cell? ⟨b, o, none⟩ = W.cell? ⟨b, o, none⟩) ∧ (∀ b o, b < W.heap.size → w1.frozen? ⟨b, o, none⟩ = W.frozen? ⟨b, o, none⟩) :=
  ⟨fun b o h => hb.cell (p := ⟨b, o, none⟩) h, fun b o h => hb.frozen (p := ⟨b, o, none⟩) h⟩
theorem ret_bool {a b : Bool} (h : a = b) : Ending.returned (.bool a) = .returned (.bool b) := by rw [h]
theorem ret_i64 {a b : Int} (h : a = b) : Ending.returned (.int .i64 a) = .returned (.int .i64 b) := by rw [h]

set_option maxHeartbeats 400000 in
theorem may_yes (a b : Int) (w : World) (h : 0 ≤ a ∧ a ≤ 1073741824 ∧ 0 ≤ b ∧ b < 15) :
    Calls Try.prog 36 #[.agg #[.int .i64 a, .int .i64 b]] w fun e w' => e = .returned (.bool true) ∧ Below w.heap.size w w' := by
  obtain ⟨h1, h2, h3, h4⟩ := h
  go_enter Try.func36, Try.ntmps36
  go_wp2
  go_ret
  exact ⟨rfl, (Below.refl _ _).alloc (Nat.le_refl _) _⟩

set_option maxHeartbeats 400000 in
theorem may_no (a b : Int) (w : World) (h : ¬ (0 ≤ a ∧ a ≤ 1073741824 ∧ 0 ≤ b ∧ b < 15)) :
    Calls Try.prog 36 #[.agg #[.int .i64 a, .int .i64 b]] w fun e w' => e = .returned (.bool false) ∧ Below w.heap.size w w' := by
  by_cases h1 : 0 ≤ a
  · by_cases h2 : a ≤ 1073741824
    · by_cases h3 : 0 ≤ b
      · have h4 : ¬ b < 15 := fun h4 => h ⟨h1, h2, h3, h4⟩
        clear h
        go_enter Try.func36, Try.ntmps36
        go_wp2
        go_ret
        exact ⟨rfl, (Below.refl _ _).alloc (Nat.le_refl _) _⟩
      · clear h
        go_enter Try.func36, Try.ntmps36
        go_wp2
        go_ret
        exact ⟨rfl, (Below.refl _ _).alloc (Nat.le_refl _) _⟩
    · clear h
      go_enter Try.func36, Try.ntmps36
      go_wp2
      go_ret
      exact ⟨rfl, (Below.refl _ _).alloc (Nat.le_refl _) _⟩
  · clear h
    go_enter Try.func36, Try.ntmps36
    go_wp2
    go_ret
    exact ⟨rfl, (Below.refl _ _).alloc (Nat.le_refl _) _⟩

set_option maxHeartbeats 400000 in
theorem number_any (a b : Int) (w : World) :
    Calls Try.prog 37 #[.agg #[.int .i64 a, .int .i64 b]] w fun e w' => e = .returned (.int .i64 (wrap64 (wrap64 (wrap64 (16 * a) + b) + 1))) ∧ Below w.heap.size w w' := by
  go_enter Try.func37, Try.ntmps37
  go_wp2
  go_ret
  exact ⟨rfl, (Below.refl _ _).alloc (Nat.le_refl _) _⟩

set_option maxHeartbeats 400000 in
theorem make_yes (a b : Int) (w : World) (h : 0 ≤ a ∧ a ≤ 1073741824 ∧ 0 ≤ b ∧ b < 15) :
    Calls Try.prog 12 #[.int .i64 a, .int .i64 b] w fun e w' => e = .returned (.int .i64 (16 * a + b + 1)) ∧ Below w.heap.size w w' := by
  have hh := h
  obtain ⟨h1, h2, h3, h4⟩ := hh
  have H := Lib.hid h
  clear h
  go_enter Try.func12, Try.ntmps12
  go_wp2_with fail
  refine (may_yes _ _ _ H.out).mono ?_
  rintro e w1 ⟨rfl, hb1⟩
  obtain ⟨hc1, hf1⟩ := bcell hb1
  go_wp2_with fail
  refine (number_any _ _ _).mono ?_
  rintro e w2 ⟨rfl, hb2⟩
  go_wp2_with fail
  go_ret
  exact ⟨ret_i64 (by unfold wrap64; omega), (((Below.refl _ _).alloc (Nat.le_refl _) _).trans (hb1.mono (by simp))).trans (hb2.mono (by have := hb1.size; simp at this; omega))⟩

set_option maxHeartbeats 400000 in
theorem make_no (a b : Int) (w : World) (h : ¬ (0 ≤ a ∧ a ≤ 1073741824 ∧ 0 ≤ b ∧ b < 15)) :
    Calls Try.prog 12 #[.int .i64 a, .int .i64 b] w fun e w' => e = .returned (.int .i64 0) ∧ Below w.heap.size w w' := by
  have H := Lib.hid h
  clear h
  go_enter Try.func12, Try.ntmps12
  go_wp2_with fail
  refine (may_no _ _ _ H.out).mono ?_
  rintro e w1 ⟨rfl, hb1⟩
  go_wp2_with fail
  go_ret
  exact ⟨rfl, ((Below.refl _ _).alloc (Nat.le_refl _) _).trans (hb1.mono (by simp))⟩

set_option maxHeartbeats 400000 in
theorem of_yes (b : Int) (w : World) (hb : b ≤ 9223372036854775807) (h1 : 0 < b) (h2 : b / 16 ≤ 1073741824) (h3 : 1 ≤ b % 16) :
    Calls Try.prog 38 #[.int .i64 b] w fun e w' => e = .returned (.agg #[.int .i64 (b / 16), .int .i64 (b % 16 - 1)]) ∧ Below w.heap.size w w' := by
  have hq : ((b % 16 - 1) == (-1 : Int)) = false := by rw [beq_eq_false_iff_ne]; omega
  by_cases h0 : b / 16 = 0
  · have hp : ((b / 16) == (0 : Int)) = true := by rw [beq_iff_eq]; exact h0
    clear h0
    go_enter Try.func38, Try.ntmps38
    go_wp2_with fail
    refine (may_yes _ _ _ (by omega)).mono ?_
    rintro e w1 ⟨rfl, hb1⟩
    obtain ⟨hc1, hf1⟩ := bcell hb1
    have hz1 : w.heap.size + 1 < w1.heap.size := by have := hb1.size; simp at this; omega
    have q0 : w1.cell? ⟨w.heap.size, 0, none⟩ = some (.int .i64 0) := (hc1 _ _ (by simp; omega)).trans (by simp [go_sem])
    have q1 : w1.cell? ⟨w.heap.size, 1, none⟩ = some (.int .i64 0) := (hc1 _ _ (by simp; omega)).trans (by simp [go_sem])
    go_wp2_with fail
    refine bodyPost_ret (v := .agg #[.int .i64 (b / 16), .int .i64 (b % 16 - 1)]) (by simp [results, Try.results38, go_sem, q0, q1]) rfl ⟨rfl, ?_⟩
    exact (((((Below.refl _ _).alloc (Nat.le_refl _) _).alloc (by simp) _).trans (hb1.mono (by simp; omega))).setCell (Nat.le_refl _) _).setCell (Nat.le_refl _) _
  · have hp : ((b / 16) == (0 : Int)) = false := by rw [beq_eq_false_iff_ne]; exact h0
    clear h0
    go_enter Try.func38, Try.ntmps38
    go_wp2_with fail
    refine (may_yes _ _ _ (by omega)).mono ?_
    rintro e w1 ⟨rfl, hb1⟩
    obtain ⟨hc1, hf1⟩ := bcell hb1
    have hz1 : w.heap.size + 1 < w1.heap.size := by have := hb1.size; simp at this; omega
    have q0 : w1.cell? ⟨w.heap.size, 0, none⟩ = some (.int .i64 0) := (hc1 _ _ (by simp; omega)).trans (by simp [go_sem])
    have q1 : w1.cell? ⟨w.heap.size, 1, none⟩ = some (.int .i64 0) := (hc1 _ _ (by simp; omega)).trans (by simp [go_sem])
    go_wp2_with fail
    refine bodyPost_ret (v := .agg #[.int .i64 (b / 16), .int .i64 (b % 16 - 1)]) (by simp [results, Try.results38, go_sem, q0, q1]) rfl ⟨rfl, ?_⟩
    exact (((((Below.refl _ _).alloc (Nat.le_refl _) _).alloc (by simp) _).trans (hb1.mono (by simp; omega))).setCell (Nat.le_refl _) _).setCell (Nat.le_refl _) _

set_option maxHeartbeats 400000 in
theorem of_no (b : Int) (w : World) (hb : b ≤ 9223372036854775807) (h : ¬ (0 < b ∧ b / 16 ≤ 1073741824 ∧ 1 ≤ b % 16)) :
    Calls Try.prog 38 #[.int .i64 b] w fun e w' => e = .returned (.agg #[.int .i64 0, .int .i64 (-1)]) ∧ Below w.heap.size w w' := by
  by_cases h1 : 0 < b
  · have h4 : ¬ (0 ≤ b / 16 ∧ b / 16 ≤ 1073741824 ∧ 0 ≤ b % 16 - 1 ∧ b % 16 - 1 < 15) := by omega
    have H := Lib.hid h4
    clear h h4
    go_enter Try.func38, Try.ntmps38
    go_wp2_with fail
    refine (may_no _ _ _ H.out).mono ?_
    rintro e w1 ⟨rfl, hb1⟩
    obtain ⟨hc1, hf1⟩ := bcell hb1
    have hz1 : w.heap.size + 1 < w1.heap.size := by have := hb1.size; simp at this; omega
    have q0 : w1.cell? ⟨w.heap.size, 0, none⟩ = some (.int .i64 0) := (hc1 _ _ (by simp; omega)).trans (by simp [go_sem])
    have q1 : w1.cell? ⟨w.heap.size, 1, none⟩ = some (.int .i64 0) := (hc1 _ _ (by simp; omega)).trans (by simp [go_sem])
    go_wp2_with fail
    refine bodyPost_ret (v := .agg #[.int .i64 0, .int .i64 (-1)]) (by simp [results, Try.results38, go_sem, q0, q1]) rfl ⟨rfl, ?_⟩
    exact (((((Below.refl _ _).alloc (Nat.le_refl _) _).alloc (by simp) _).trans (hb1.mono (by simp; omega))).setCell (Nat.le_refl _) _).setCell (Nat.le_refl _) _
  · clear h
    go_enter Try.func38, Try.ntmps38
    go_wp2_with fail
    refine bodyPost_ret (v := .agg #[.int .i64 0, .int .i64 (-1)]) (by simp only [results, Try.results38]; go_simp) rfl ⟨rfl, ?_⟩
    exact (Below.refl _ _).alloc (Nat.le_refl _) _

set_option maxHeartbeats 400000 in
theorem round_yes (b : Int) (w : World) (hb : b ≤ 9223372036854775807) (h1 : 0 < b) (h2 : b / 16 ≤ 1073741824) (h3 : 1 ≤ b % 16) :
    Calls Try.prog 13 #[.int .i64 b] w fun e w' => e = .returned (.int .i64 (b / 16)) ∧ Below w.heap.size w w' := by
  have hfl : ∀ (x y : Int) (w : World), (Instr.field 57 (.agg #[.int .i64 x, .int .i64 y]) 0).run Try.prog w = .ok (.int .i64 x) w := fun _ _ _ => by kernel_rfl
  go_enter Try.func13, Try.ntmps13
  go_wp2_with fail
  refine (of_yes _ _ hb h1 h2 h3).mono ?_
  rintro e w1 ⟨rfl, hb1⟩
  obtain ⟨hc1, hf1⟩ := bcell hb1
  go_wp2_with fail
  go_ret
  exact ⟨rfl, hb1⟩

set_option maxHeartbeats 400000 in
theorem round_no (b : Int) (w : World) (hb : b ≤ 9223372036854775807) (h : ¬ (0 < b ∧ b / 16 ≤ 1073741824 ∧ 1 ≤ b % 16)) :
    Calls Try.prog 13 #[.int .i64 b] w fun e w' => e = .returned (.int .i64 (0)) ∧ Below w.heap.size w w' := by
  have H := Lib.hid h
  clear h
  have hfl : ∀ (x y : Int) (w : World), (Instr.field 57 (.agg #[.int .i64 x, .int .i64 y]) 0).run Try.prog w = .ok (.int .i64 x) w := fun _ _ _ => by kernel_rfl
  go_enter Try.func13, Try.ntmps13
  go_wp2_with fail
  refine (of_no _ _ hb H.out).mono ?_
  rintro e w1 ⟨rfl, hb1⟩
  obtain ⟨hc1, hf1⟩ := bcell hb1
  go_wp2_with fail
  go_ret
  exact ⟨rfl, hb1⟩

set_option maxHeartbeats 400000 in
theorem id_yes (b : Int) (w : World) (hb : b ≤ 9223372036854775807) (h1 : 0 < b) (h2 : b / 16 ≤ 1073741824) (h3 : 1 ≤ b % 16) :
    Calls Try.prog 14 #[.int .i64 b] w fun e w' => e = .returned (.int .i64 (b % 16 - 1)) ∧ Below w.heap.size w w' := by
  have hfl : ∀ (x y : Int) (w : World), (Instr.field 57 (.agg #[.int .i64 x, .int .i64 y]) 1).run Try.prog w = .ok (.int .i64 y) w := fun _ _ _ => by kernel_rfl
  go_enter Try.func14, Try.ntmps14
  go_wp2_with fail
  refine (of_yes _ _ hb h1 h2 h3).mono ?_
  rintro e w1 ⟨rfl, hb1⟩
  obtain ⟨hc1, hf1⟩ := bcell hb1
  go_wp2_with fail
  go_ret
  exact ⟨rfl, hb1⟩

set_option maxHeartbeats 400000 in
theorem id_no (b : Int) (w : World) (hb : b ≤ 9223372036854775807) (h : ¬ (0 < b ∧ b / 16 ≤ 1073741824 ∧ 1 ≤ b % 16)) :
    Calls Try.prog 14 #[.int .i64 b] w fun e w' => e = .returned (.int .i64 (-1)) ∧ Below w.heap.size w w' := by
  have H := Lib.hid h
  clear h
  have hfl : ∀ (x y : Int) (w : World), (Instr.field 57 (.agg #[.int .i64 x, .int .i64 y]) 1).run Try.prog w = .ok (.int .i64 y) w := fun _ _ _ => by kernel_rfl
  go_enter Try.func14, Try.ntmps14
  go_wp2_with fail
  refine (of_no _ _ hb H.out).mono ?_
  rintro e w1 ⟨rfl, hb1⟩
  obtain ⟨hc1, hf1⟩ := bcell hb1
  go_wp2_with fail
  go_ret
  exact ⟨rfl, hb1⟩

set_option maxHeartbeats 400000 in
theorem number_is (a b n : Int) (w : World) (h : wrap64 (wrap64 (wrap64 (16 * a) + b) + 1) = n) :
    Calls Try.prog 37 #[.agg #[.int .i64 a, .int .i64 b]] w fun e w' => e = .returned (.int .i64 n) ∧ Below w.heap.size w w' :=
  (number_any a b w).mono fun _ _ ⟨h1, h2⟩ => ⟨by rw [h1, h], h2⟩

/-- what Next answers -/
def nextOf (b id : Int) : Int :=
  if b < 0 ∨ id < 0 ∨ id ≥ 15 then 0
  else if 16 * (b / 16) + id + 1 > b then (if b / 16 ≤ 1073741824 then 16 * (b / 16) + id + 1 else 0)
  else (if b / 16 + 1 ≤ 1073741824 then 16 * (b / 16 + 1) + id + 1 else 0)

set_option maxHeartbeats 400000 in
theorem next_bad (b id : Int) (w : World) (h : b < 0 ∨ id < 0 ∨ id ≥ 15) :
    Calls Try.prog 15 #[.int .i64 b, .int .i64 id] w fun e w' => e = .returned (.int .i64 0) ∧ Below w.heap.size w w' := by
  by_cases h1 : b < 0
  · clear h
    go_enter Try.func15, Try.ntmps15
    go_wp2_with fail
    go_ret
    exact ⟨rfl, Below.refl _ _⟩
  · by_cases h2 : id < 0
    · clear h
      go_enter Try.func15, Try.ntmps15
      go_wp2_with fail
      go_ret
      exact ⟨rfl, Below.refl _ _⟩
    · have h3 : 15 ≤ id := by omega
      clear h
      go_enter Try.func15, Try.ntmps15
      go_wp2_with fail
      go_ret
      exact ⟨rfl, Below.refl _ _⟩

set_option maxHeartbeats 400000 in
theorem next_here (b id : Int) (w : World) (h1 : 0 ≤ b) (hb : b ≤ 9223372036854775807) (h2 : 0 ≤ id) (h3 : id < 15) (h4 : b < 16 * (b / 16) + id + 1) (h5 : b / 16 ≤ 1073741824) :
    Calls Try.prog 15 #[.int .i64 b, .int .i64 id] w fun e w' => e = .returned (.int .i64 (16 * (b / 16) + id + 1)) ∧ Below w.heap.size w w' := by
  go_enter Try.func15, Try.ntmps15
  go_wp2_with fail
  refine (number_is _ _ (16 * (b / 16) + id + 1) _ (by unfold wrap64; omega)).mono ?_
  rintro e w1 ⟨rfl, hb1⟩
  obtain ⟨hc1, hf1⟩ := bcell hb1
  go_wp2_with fail
  refine (may_yes _ _ _ (by omega)).mono ?_
  rintro e w2 ⟨rfl, hb2⟩
  obtain ⟨hc2, hf2⟩ := bcell hb2
  have hz1 : w.heap.size < w1.heap.size := by have := hb1.size; simp at this; omega
  go_wp2_with fail
  refine (number_is _ _ (16 * (b / 16) + id + 1) _ (by unfold wrap64; omega)).mono ?_
  rintro e w3 ⟨rfl, hb3⟩
  go_wp2_with fail
  go_ret
  exact ⟨rfl, ((((Below.refl _ _).alloc (Nat.le_refl _) _).trans (hb1.mono (by simp))).trans (hb2.mono (by omega))).trans (hb3.mono (by have := hb2.size; omega))⟩

set_option maxHeartbeats 400000 in
theorem next_none (b id : Int) (w : World) (h1 : 0 ≤ b) (hb : b ≤ 9223372036854775807) (h2 : 0 ≤ id) (h3 : id < 15) (h4 : b < 16 * (b / 16) + id + 1) (h6 : 16 * (b / 16) + id + 1 ≤ 9223372036854775807) (h5 : 1073741824 < b / 16) :
    Calls Try.prog 15 #[.int .i64 b, .int .i64 id] w fun e w' => e = .returned (.int .i64 0) ∧ Below w.heap.size w w' := by
  go_enter Try.func15, Try.ntmps15
  go_wp2_with fail
  refine (number_is _ _ (16 * (b / 16) + id + 1) _ (by unfold wrap64; omega)).mono ?_
  rintro e w1 ⟨rfl, hb1⟩
  obtain ⟨hc1, hf1⟩ := bcell hb1
  go_wp2_with fail
  refine (may_no _ _ _ (by omega)).mono ?_
  rintro e w2 ⟨rfl, hb2⟩
  have hz1 : w.heap.size < w1.heap.size := by have := hb1.size; simp at this; omega
  go_wp2_with fail
  go_ret
  exact ⟨rfl, (((Below.refl _ _).alloc (Nat.le_refl _) _).trans (hb1.mono (by simp))).trans (hb2.mono (by omega))⟩

set_option maxHeartbeats 400000 in
theorem next_more (b id n : Int) (w : World) (h1 : 0 ≤ b) (hb : b ≤ 9223372036854775807) (h2 : 0 ≤ id) (h3 : id < 15) (hn : Hid (wrap64 (wrap64 (wrap64 (16 * (b / 16)) + id) + 1) = n)) (h4 : n ≤ b) (h5 : b / 16 + 1 ≤ 1073741824) :
    Calls Try.prog 15 #[.int .i64 b, .int .i64 id] w fun e w' => e = .returned (.int .i64 (16 * (b / 16 + 1) + id + 1)) ∧ Below w.heap.size w w' := by
  go_enter Try.func15, Try.ntmps15
  go_wp2_with fail
  refine (number_is _ _ n _ hn.out).mono ?_
  rintro e w1 ⟨rfl, hb1⟩
  obtain ⟨hc1, hf1⟩ := bcell hb1
  have hz1 : w.heap.size < w1.heap.size := by have := hb1.size; simp at this; omega
  go_wp2_with fail
  refine (may_yes _ _ _ (by omega)).mono ?_
  rintro e w2 ⟨rfl, hb2⟩
  obtain ⟨hc2, hf2⟩ := bcell hb2
  go_wp2_with fail
  refine (number_is _ _ (16 * (b / 16 + 1) + id + 1) _ (by unfold wrap64; omega)).mono ?_
  rintro e w3 ⟨rfl, hb3⟩
  go_wp2_with fail
  go_ret
  exact ⟨rfl, (((((Below.refl _ _).alloc (Nat.le_refl _) _).trans (hb1.mono (by simp))).setCell (by simp) _).trans (hb2.mono (by simp; omega))).trans (hb3.mono (by have := hb2.size; simp at this; omega))⟩

set_option maxHeartbeats 400000 in
theorem next_end (b id n : Int) (w : World) (h1 : 0 ≤ b) (hb : b ≤ 9223372036854775807) (h2 : 0 ≤ id) (h3 : id < 15) (hn : Hid (wrap64 (wrap64 (wrap64 (16 * (b / 16)) + id) + 1) = n)) (h4 : n ≤ b) (h5 : 1073741824 < b / 16 + 1) :
    Calls Try.prog 15 #[.int .i64 b, .int .i64 id] w fun e w' => e = .returned (.int .i64 0) ∧ Below w.heap.size w w' := by
  go_enter Try.func15, Try.ntmps15
  go_wp2_with fail
  refine (number_is _ _ n _ hn.out).mono ?_
  rintro e w1 ⟨rfl, hb1⟩
  obtain ⟨hc1, hf1⟩ := bcell hb1
  have hz1 : w.heap.size < w1.heap.size := by have := hb1.size; simp at this; omega
  go_wp2_with fail
  refine (may_no _ _ _ (by omega)).mono ?_
  rintro e w2 ⟨rfl, hb2⟩
  go_wp2_with fail
  go_ret
  exact ⟨rfl, ((((Below.refl _ _).alloc (Nat.le_refl _) _).trans (hb1.mono (by simp))).setCell (by simp) _).trans (hb2.mono (by simp; omega))⟩

theorem next_any (b id : Int) (w : World) (hb : b ≤ 9223372036854775807) :
    Calls Try.prog 15 #[.int .i64 b, .int .i64 id] w fun e w' => e = .returned (.int .i64 (nextOf b id)) ∧ Below w.heap.size w w' := by
  unfold nextOf
  by_cases h0 : b < 0 ∨ id < 0 ∨ id ≥ 15
  · rw [if_pos h0]; exact next_bad b id w h0
  · rw [if_neg h0]
    by_cases h1 : 16 * (b / 16) + id + 1 > b
    · rw [if_pos h1]
      by_cases h2 : b / 16 ≤ 1073741824
      · rw [if_pos h2]; exact next_here b id w (by omega) hb (by omega) (by omega) h1 h2
      · rw [if_neg h2]
        by_cases h3 : 16 * (b / 16) + id + 1 ≤ 9223372036854775807
        · exact next_none b id w (by omega) hb (by omega) (by omega) h1 h3 (by omega)
        · exact next_end b id (16 * (b / 16) + id + 1 - 18446744073709551616) w (by omega) hb (by omega) (by omega) (Lib.hid (by unfold wrap64; omega)) (by omega) (by omega)
    · rw [if_neg h1]
      by_cases h2 : b / 16 + 1 ≤ 1073741824
      · rw [if_pos h2]; exact next_more b id (16 * (b / 16) + id + 1) w (by omega) hb (by omega) (by omega) (Lib.hid (by unfold wrap64; omega)) (by omega) h2
      · rw [if_neg h2]; exact next_end b id (16 * (b / 16) + id + 1) w (by omega) hb (by omega) (by omega) (Lib.hid (by unfold wrap64; omega)) (by omega) (by omega)

set_option maxHeartbeats 400000 in
theorem awake_yes (w : World) :
    Calls Try.prog 11 #[] w fun e w' => e = .returned (.bool true) ∧ Below w.heap.size w w' := by
  go_enter Try.func11, Try.ntmps11
  go_wp2_with fail
  refine (make_yes 1 2 _ (by omega)).mono ?_
  rintro e w1 ⟨rfl, hb1⟩
  go_wp2_with fail
  refine (id_yes 19 _ (by omega) (by omega) (by omega) (by omega)).mono ?_
  rintro e w2 ⟨rfl, hb2⟩
  go_wp2_with fail
  refine (round_yes 19 _ (by omega) (by omega) (by omega) (by omega)).mono ?_
  rintro e w3 ⟨rfl, hb3⟩
  go_wp2_with fail
  go_ret
  exact ⟨rfl, (hb1.trans (hb2.mono hb1.size)).trans (hb3.mono (Nat.le_trans hb1.size hb2.size))⟩

theorem next_is (b id n : Int) (w : World) (hb : b ≤ 9223372036854775807) (h : nextOf b id = n) :
    Calls Try.prog 15 #[.int .i64 b, .int .i64 id] w fun e w' => e = .returned (.int .i64 n) ∧ Below w.heap.size w w' := by
  rw [← h]; exact next_any b id w hb

set_option maxHeartbeats 400000 in
theorem known_yes (w : World) :
    Calls Try.prog 4 #[] w fun e w' => e = .returned (.bool true) ∧ Below w.heap.size w w' := by
  go_enter Try.func4, Try.ntmps4
  go_wp2_with fail
  refine (awake_yes _).mono ?_
  rintro e w0 ⟨rfl, hb0⟩
  go_wp2_with fail
  refine (make_yes 0 0 _ (by omega)).mono ?_
  rintro e w1 ⟨rfl, hb1⟩
  go_wp2_with fail
  refine (next_is 0 3 4 _ (by omega) (by decide)).mono ?_
  rintro e w2 ⟨rfl, hb2⟩
  go_wp2_with fail
  refine (next_is 19 2 35 _ (by omega) (by decide)).mono ?_
  rintro e w3 ⟨rfl, hb3⟩
  go_wp2_with fail
  refine (next_is 19 4 21 _ (by omega) (by decide)).mono ?_
  rintro e w4 ⟨rfl, hb4⟩
  go_wp2_with fail
  refine (id_no 0 _ (by omega) (by omega)).mono ?_
  rintro e w5 ⟨rfl, hb5⟩
  go_wp2_with fail
  refine (id_no 16 _ (by omega) (by omega)).mono ?_
  rintro e w6 ⟨rfl, hb6⟩
  go_wp2_with fail
  go_ret
  have s0 := hb0.size
  have s1 := hb1.size
  have s2 := hb2.size
  have s3 := hb3.size
  have s4 := hb4.size
  have s5 := hb5.size
  exact ⟨rfl, (((((hb0.trans (hb1.mono (by omega))).trans (hb2.mono (by omega))).trans (hb3.mono (by omega))).trans (hb4.mono (by omega))).trans (hb5.mono (by omega))).trans (hb6.mono (by omega))⟩

/-! ### the reference -/

set_option maxHeartbeats 400000 in
theorem replica_yes (b : Int) (w : World) (h1 : 0 ≤ b) (h2 : b < 15) :
    Calls Try.prog 39 #[.int .i64 b] w fun e w' => e = .returned (.bool true) ∧ w = w' := by
  go_enter Try.func39, Try.ntmps39
  go_wp2
  go_ret
  exact ⟨rfl, rfl⟩
set_option maxHeartbeats 400000 in
theorem replica_no (b : Int) (w : World) (h : ¬ (0 ≤ b ∧ b < 15)) :
    Calls Try.prog 39 #[.int .i64 b] w fun e w' => e = .returned (.bool false) ∧ w = w' := by
  by_cases h1 : 0 ≤ b
  · have h2 : ¬ (b < 15) := by omega
    clear h
    go_enter Try.func39, Try.ntmps39
    go_wp2
    go_ret
    exact ⟨rfl, rfl⟩
  · clear h
    go_enter Try.func39, Try.ntmps39
    go_wp2
    go_ret
    exact ⟨rfl, rfl⟩

set_option maxHeartbeats 400000 in
theorem rmake_yes (a b : Int) (w : World) (h : 0 ≤ a ∧ a ≤ 1073741824 ∧ 0 ≤ b ∧ b < 15) :
    Calls Try.prog 16 #[.int .i64 a, .int .i64 b] w fun e w' => e = .returned (.int .i64 (16 * a + b + 1)) ∧ w = w' := by
  obtain ⟨h1, h2, h3, h4⟩ := h
  go_enter Try.func16, Try.ntmps16
  go_wp2_with fail
  refine (replica_yes _ _ h3 h4).mono ?_
  rintro e w1 ⟨rfl, rfl⟩
  go_wp2_with fail
  go_ret
  exact ⟨ret_i64 (by omega), rfl⟩

set_option maxHeartbeats 400000 in
theorem rmake_no (a b : Int) (w : World) (h : ¬ (0 ≤ a ∧ a ≤ 1073741824 ∧ 0 ≤ b ∧ b < 15)) :
    Calls Try.prog 16 #[.int .i64 a, .int .i64 b] w fun e w' => e = .returned (.int .i64 0) ∧ w = w' := by
  by_cases h1 : a < 0
  · clear h
    go_enter Try.func16, Try.ntmps16
    go_wp2_with fail
    go_ret
    exact ⟨rfl, rfl⟩
  · by_cases h2 : a ≤ 1073741824
    · have H := Lib.hid (show ¬ (0 ≤ b ∧ b < 15) by omega)
      clear h
      go_enter Try.func16, Try.ntmps16
      go_wp2_with fail
      refine (replica_no _ _ H.out).mono ?_
      rintro e w1 ⟨rfl, rfl⟩
      go_wp2_with fail
      go_ret
      exact ⟨rfl, rfl⟩
    · clear h
      go_enter Try.func16, Try.ntmps16
      go_wp2_with fail
      go_ret
      exact ⟨rfl, rfl⟩

set_option maxHeartbeats 400000 in
theorem is_yes (b : Int) (w : World) (hb : b ≤ 9223372036854775807) (h1 : 0 < b) (h2 : b / 16 ≤ 1073741824) (h3 : 1 ≤ b % 16) :
    Calls Try.prog 40 #[.int .i64 b] w fun e w' => e = .returned (.bool true) ∧ w = w' := by
  have hq : (b % 16 != 0) = true := by rw [bne_iff_ne]; omega
  go_enter Try.func40, Try.ntmps40
  go_wp2
  go_ret
  exact ⟨rfl, rfl⟩
set_option maxHeartbeats 400000 in
theorem is_no (b : Int) (w : World) (hb : b ≤ 9223372036854775807) (h : ¬ (0 < b ∧ b / 16 ≤ 1073741824 ∧ 1 ≤ b % 16)) :
    Calls Try.prog 40 #[.int .i64 b] w fun e w' => e = .returned (.bool false) ∧ w = w' := by
  by_cases h1 : 0 < b
  · by_cases h3 : 1 ≤ b % 16
    · have h2 : ¬ (b / 16 ≤ 1073741824) := by omega
      have hq : (b % 16 != 0) = true := by rw [bne_iff_ne]; omega
      clear h
      go_enter Try.func40, Try.ntmps40
      go_wp2
      go_ret
      exact ⟨rfl, rfl⟩
    · have hq : (b % 16 != 0) = false := by rw [bne_eq_false_iff_eq]; omega
      clear h
      go_enter Try.func40, Try.ntmps40
      go_wp2
      go_ret
      exact ⟨rfl, rfl⟩
  · clear h
    go_enter Try.func40, Try.ntmps40
    go_wp2
    go_ret
    exact ⟨rfl, rfl⟩

set_option maxHeartbeats 400000 in
theorem rround_yes (b : Int) (w : World) (hb : b ≤ 9223372036854775807) (h1 : 0 < b) (h2 : b / 16 ≤ 1073741824) (h3 : 1 ≤ b % 16) :
    Calls Try.prog 17 #[.int .i64 b] w fun e w' => e = .returned (.int .i64 (b / 16)) ∧ w = w' := by
  go_enter Try.func17, Try.ntmps17
  go_wp2_with fail
  refine (is_yes _ _ hb h1 h2 h3).mono ?_
  rintro e w1 ⟨rfl, rfl⟩
  go_wp2_with fail
  go_ret
  exact ⟨rfl, rfl⟩
set_option maxHeartbeats 400000 in
theorem rround_no (b : Int) (w : World) (hb : b ≤ 9223372036854775807) (h : ¬ (0 < b ∧ b / 16 ≤ 1073741824 ∧ 1 ≤ b % 16)) :
    Calls Try.prog 17 #[.int .i64 b] w fun e w' => e = .returned (.int .i64 (0)) ∧ w = w' := by
  have H := Lib.hid h
  clear h
  go_enter Try.func17, Try.ntmps17
  go_wp2_with fail
  refine (is_no _ _ hb H.out).mono ?_
  rintro e w1 ⟨rfl, rfl⟩
  go_wp2_with fail
  go_ret
  exact ⟨rfl, rfl⟩

set_option maxHeartbeats 400000 in
theorem rid_yes (b : Int) (w : World) (hb : b ≤ 9223372036854775807) (h1 : 0 < b) (h2 : b / 16 ≤ 1073741824) (h3 : 1 ≤ b % 16) :
    Calls Try.prog 18 #[.int .i64 b] w fun e w' => e = .returned (.int .i64 (b % 16 - 1)) ∧ w = w' := by
  go_enter Try.func18, Try.ntmps18
  go_wp2_with fail
  refine (is_yes _ _ hb h1 h2 h3).mono ?_
  rintro e w1 ⟨rfl, rfl⟩
  go_wp2_with fail
  go_ret
  exact ⟨rfl, rfl⟩
set_option maxHeartbeats 400000 in
theorem rid_no (b : Int) (w : World) (hb : b ≤ 9223372036854775807) (h : ¬ (0 < b ∧ b / 16 ≤ 1073741824 ∧ 1 ≤ b % 16)) :
    Calls Try.prog 18 #[.int .i64 b] w fun e w' => e = .returned (.int .i64 (-1)) ∧ w = w' := by
  have H := Lib.hid h
  clear h
  go_enter Try.func18, Try.ntmps18
  go_wp2_with fail
  refine (is_no _ _ hb H.out).mono ?_
  rintro e w1 ⟨rfl, rfl⟩
  go_wp2_with fail
  go_ret
  exact ⟨rfl, rfl⟩

set_option maxHeartbeats 400000 in
theorem rnext_big (b id : Int) (w : World) (hb : b ≤ 9223372036854775807) (h1 : b < 0 ∨ 1073741824 < b / 16) :
    Calls Try.prog 19 #[.int .i64 b, .int .i64 id] w fun e w' => e = .returned (.int .i64 0) ∧ w = w' := by
  by_cases h0 : b < 0
  · clear h1
    go_enter Try.func19, Try.ntmps19
    go_wp2_with fail
    go_ret
    exact ⟨rfl, rfl⟩
  · have h2 : 1073741824 < b / 16 := by omega
    clear h1
    go_enter Try.func19, Try.ntmps19
    go_wp2_with fail
    go_ret
    exact ⟨rfl, rfl⟩
set_option maxHeartbeats 400000 in
theorem rnext_here (b id : Int) (w : World) (h1 : 0 ≤ b) (hb : b ≤ 9223372036854775807) (h5 : b / 16 ≤ 1073741824) (h2 : 0 ≤ id) (h3 : id < 15) (h4 : b < 16 * (b / 16) + id + 1) :
    Calls Try.prog 19 #[.int .i64 b, .int .i64 id] w fun e w' => e = .returned (.int .i64 (16 * (b / 16) + id + 1)) ∧ w = w' := by
  go_enter Try.func19, Try.ntmps19
  go_wp2_with fail
  refine (rmake_yes _ _ _ (by omega)).mono ?_
  rintro e w1 ⟨rfl, rfl⟩
  go_wp2_with fail
  go_ret
  exact ⟨rfl, rfl⟩
set_option maxHeartbeats 400000 in
theorem rnext_more (b id : Int) (w : World) (h1 : 0 ≤ b) (hb : b ≤ 9223372036854775807) (h5 : b / 16 + 1 ≤ 1073741824) (h2 : 0 ≤ id) (h3 : id < 15) (h4 : 16 * (b / 16) + id + 1 ≤ b) :
    Calls Try.prog 19 #[.int .i64 b, .int .i64 id] w fun e w' => e = .returned (.int .i64 (16 * (b / 16 + 1) + id + 1)) ∧ w = w' := by
  go_enter Try.func19, Try.ntmps19
  go_wp2_with fail
  refine (rmake_yes _ _ _ (by omega)).mono ?_
  rintro e w1 ⟨rfl, rfl⟩
  go_wp2_with fail
  refine (rmake_yes _ _ _ (by omega)).mono ?_
  rintro e w1 ⟨rfl, rfl⟩
  go_wp2_with fail
  go_ret
  exact ⟨rfl, rfl⟩
set_option maxHeartbeats 400000 in
theorem rnext_last (b id : Int) (w : World) (h1 : 0 ≤ b) (hb : b ≤ 9223372036854775807) (h5 : b / 16 ≤ 1073741824) (h6 : 1073741824 < b / 16 + 1) (h2 : 0 ≤ id) (h3 : id < 15) (h4 : 16 * (b / 16) + id + 1 ≤ b) :
    Calls Try.prog 19 #[.int .i64 b, .int .i64 id] w fun e w' => e = .returned (.int .i64 0) ∧ w = w' := by
  go_enter Try.func19, Try.ntmps19
  go_wp2_with fail
  refine (rmake_yes _ _ _ (by omega)).mono ?_
  rintro e w1 ⟨rfl, rfl⟩
  go_wp2_with fail
  refine (rmake_no _ _ _ (by omega)).mono ?_
  rintro e w1 ⟨rfl, rfl⟩
  go_wp2_with fail
  go_ret
  exact ⟨rfl, rfl⟩
set_option maxHeartbeats 400000 in
theorem rnext_id (b id : Int) (w : World) (h1 : 0 ≤ b) (hb : b ≤ 9223372036854775807) (h5 : b / 16 ≤ 1073741824) (h2 : id < 0 ∨ id ≥ 15) :
    Calls Try.prog 19 #[.int .i64 b, .int .i64 id] w fun e w' => e = .returned (.int .i64 0) ∧ w = w' := by
  have H := Lib.hid h2
  clear h2
  go_enter Try.func19, Try.ntmps19
  go_wp2_with fail
  refine (rmake_no _ _ _ (by have := H.out; omega)).mono ?_
  rintro e w1 ⟨rfl, rfl⟩
  go_wp2_with fail
  refine (rmake_no _ _ _ (by have := H.out; omega)).mono ?_
  rintro e w1 ⟨rfl, rfl⟩
  go_wp2_with fail
  go_ret
  exact ⟨rfl, rfl⟩
theorem rnext_any (b id : Int) (w : World) (hb : b ≤ 9223372036854775807) :
    Calls Try.prog 19 #[.int .i64 b, .int .i64 id] w fun e w' => e = .returned (.int .i64 (nextOf b id)) ∧ w = w' := by
  unfold nextOf
  by_cases h0 : b < 0
  · rw [if_pos (Or.inl h0)]; exact rnext_big b id w hb (Or.inl h0)
  · by_cases h1 : b / 16 ≤ 1073741824
    · by_cases h2 : id < 0 ∨ id ≥ 15
      · rw [if_pos (Or.inr h2)]; exact rnext_id b id w (by omega) hb h1 h2
      · rw [if_neg (by omega)]
        by_cases h3 : 16 * (b / 16) + id + 1 > b
        · rw [if_pos h3, if_pos h1]; exact rnext_here b id w (by omega) hb h1 (by omega) (by omega) h3
        · rw [if_neg h3]
          by_cases h4 : b / 16 + 1 ≤ 1073741824
          · rw [if_pos h4]; exact rnext_more b id w (by omega) hb h4 (by omega) (by omega) (by omega)
          · rw [if_neg h4]; exact rnext_last b id w (by omega) hb h1 (by omega) (by omega) (by omega) (by omega)
    · have := rnext_big b id w hb (Or.inr (by omega))
      by_cases h2 : b < 0 ∨ id < 0 ∨ id ≥ 15
      · rw [if_pos h2]; exact this
      · rw [if_neg h2]
        by_cases h3 : 16 * (b / 16) + id + 1 > b
        · rw [if_pos h3, if_neg h1]; exact this
        · rw [if_neg h3, if_neg (by omega)]; exact this

theorem below2 {w w1 w2 : World} (h1 : Below w.heap.size w w1) (h2 : Below w1.heap.size w1 w2) : Below w.heap.size w w2 := h1.trans (h2.mono h1.size)

set_option maxHeartbeats 400000 in
theorem makes_yes (a b : Int) (w : World) (ha : a ≤ 9223372036854775807) :
    Calls Try.prog 5 #[.int .i64 a, .int .i64 b] w fun e w' => e = .returned (.bool true) ∧ Below w.heap.size w w' := by
  have A : ∃ m, (∀ w, Calls Try.prog 12 #[.int .i64 a, .int .i64 b] w fun e w' => e = .returned (.int .i64 m) ∧ Below w.heap.size w w') ∧ (∀ w, Calls Try.prog 16 #[.int .i64 a, .int .i64 b] w fun e w' => e = .returned (.int .i64 m) ∧ w = w') := by
    by_cases h : 0 ≤ a ∧ a ≤ 1073741824 ∧ 0 ≤ b ∧ b < 15
    · exact ⟨_, fun w => make_yes a b w h, fun w => rmake_yes a b w h⟩
    · exact ⟨_, fun w => make_no a b w h, fun w => rmake_no a b w h⟩
  have B : ∃ m, (∀ w, Calls Try.prog 13 #[.int .i64 a] w fun e w' => e = .returned (.int .i64 m) ∧ Below w.heap.size w w') ∧ (∀ w, Calls Try.prog 17 #[.int .i64 a] w fun e w' => e = .returned (.int .i64 m) ∧ w = w') := by
    by_cases h : 0 < a ∧ a / 16 ≤ 1073741824 ∧ 1 ≤ a % 16
    · exact ⟨_, fun w => round_yes a w ha h.1 h.2.1 h.2.2, fun w => rround_yes a w ha h.1 h.2.1 h.2.2⟩
    · exact ⟨_, fun w => round_no a w ha h, fun w => rround_no a w ha h⟩
  have C : ∃ m, (∀ w, Calls Try.prog 14 #[.int .i64 a] w fun e w' => e = .returned (.int .i64 m) ∧ Below w.heap.size w w') ∧ (∀ w, Calls Try.prog 18 #[.int .i64 a] w fun e w' => e = .returned (.int .i64 m) ∧ w = w') := by
    by_cases h : 0 < a ∧ a / 16 ≤ 1073741824 ∧ 1 ≤ a % 16
    · exact ⟨_, fun w => id_yes a w ha h.1 h.2.1 h.2.2, fun w => rid_yes a w ha h.1 h.2.1 h.2.2⟩
    · exact ⟨_, fun w => id_no a w ha h, fun w => rid_no a w ha h⟩
  obtain ⟨m, A1, A2⟩ := A
  obtain ⟨r, B1, B2⟩ := B
  obtain ⟨i, C1, C2⟩ := C
  have e1 : ∀ x : Int, (x == x) = true := fun x => beq_self_eq_true x
  have HA1 := Lib.hid A1
  have HA2 := Lib.hid A2
  have HB1 := Lib.hid B1
  have HB2 := Lib.hid B2
  have HC1 := Lib.hid C1
  have HC2 := Lib.hid C2
  clear A1 A2 B1 B2 C1 C2
  go_enter Try.func5, Try.ntmps5
  go_wp2_with fail
  refine (awake_yes _).mono ?_
  rintro e w0 ⟨rfl, hb0⟩
  go_wp2_with fail
  refine (HA1.out _).mono ?_
  rintro e w1 ⟨rfl, hb1⟩
  go_wp2_with fail
  refine (HA2.out _).mono ?_
  rintro e w1 ⟨rfl, rfl⟩
  go_wp2_with fail
  refine (HB1.out _).mono ?_
  rintro e w2 ⟨rfl, hb2⟩
  go_wp2_with fail
  refine (HB2.out _).mono ?_
  rintro e w2 ⟨rfl, rfl⟩
  go_wp2_with fail
  refine (HC1.out _).mono ?_
  rintro e w3 ⟨rfl, hb3⟩
  go_wp2_with fail
  refine (HC2.out _).mono ?_
  rintro e w3 ⟨rfl, rfl⟩
  go_wp2_with fail
  refine (next_any _ _ _ ha).mono ?_
  rintro e w4 ⟨rfl, hb4⟩
  go_wp2_with fail
  refine (rnext_any _ _ _ ha).mono ?_
  rintro e w4 ⟨rfl, rfl⟩
  go_wp2_with fail
  go_ret
  exact ⟨rfl, below2 (below2 (below2 (below2 hb0 hb1) hb2) hb3) hb4⟩

theorem round_is (b n : Int) (w : World) (hb : b ≤ 9223372036854775807) (h : 0 < b ∧ b / 16 ≤ 1073741824 ∧ 1 ≤ b % 16) (hn : b / 16 = n) :
    Calls Try.prog 13 #[.int .i64 b] w fun e w' => e = .returned (.int .i64 n) ∧ Below w.heap.size w w' := by
  rw [← hn]; exact round_yes b w hb h.1 h.2.1 h.2.2
theorem id_is (b n : Int) (w : World) (hb : b ≤ 9223372036854775807) (h : 0 < b ∧ b / 16 ≤ 1073741824 ∧ 1 ≤ b % 16) (hn : b % 16 - 1 = n) :
    Calls Try.prog 14 #[.int .i64 b] w fun e w' => e = .returned (.int .i64 n) ∧ Below w.heap.size w w' := by
  rw [← hn]; exact id_yes b w hb h.1 h.2.1 h.2.2
theorem make_some (a b : Int) : ∃ m, (0 ≤ a ∧ a ≤ 1073741824 ∧ 0 ≤ b ∧ b < 15 ∧ m = 16 * a + b + 1 ∨ ¬ (0 ≤ a ∧ a ≤ 1073741824 ∧ 0 ≤ b ∧ b < 15) ∧ m = 0) ∧ ∀ w, Calls Try.prog 12 #[.int .i64 a, .int .i64 b] w fun e w' => e = .returned (.int .i64 m) ∧ Below w.heap.size w w' := by
  by_cases h : 0 ≤ a ∧ a ≤ 1073741824 ∧ 0 ≤ b ∧ b < 15
  · exact ⟨16 * a + b + 1, Or.inl ⟨h.1, h.2.1, h.2.2.1, h.2.2.2, rfl⟩, fun w => make_yes a b w h⟩
  · exact ⟨0, Or.inr ⟨h, rfl⟩, fun w => make_no a b w h⟩

/-- which facts the last line of the law wants, in the walk's own spelling -/
structure Ends (r1 i1 r2 i2 m n : Int) (t u v : Bool) : Prop where
  e1 : (m == n) = t
  e2 : (r1 == r2) = u
  e3 : (i1 == i2) = v
  e4 : t = (u && v)

set_option maxHeartbeats 1000000 in
theorem orders_none (r1 i1 r2 i2 m n : Int) (w : World) (h0 : m = 0 ∨ n = 0)
    (hm : Hid (∀ w, Calls Try.prog 12 #[.int .i64 r1, .int .i64 i1] w fun e w' => e = .returned (.int .i64 m) ∧ Below w.heap.size w w'))
    (hn : Hid (∀ w, Calls Try.prog 12 #[.int .i64 r2, .int .i64 i2] w fun e w' => e = .returned (.int .i64 n) ∧ Below w.heap.size w w')) :
    Calls Try.prog 3 #[.agg #[.int .i64 r1, .int .i64 i1], .agg #[.int .i64 r2, .int .i64 i2]] w fun e w' => e = .returned (.bool true) ∧ Below w.heap.size w w' := by
  by_cases k0 : m = 0
  · have k1 : (m == 0) = true := by rw [beq_iff_eq]; exact k0
    clear h0 k0
    go_enter Try.func3, Try.ntmps3
    go_wp2_with fail
    refine (awake_yes _).mono ?_
    rintro e w0 ⟨rfl, hb0⟩
    obtain ⟨hc0, hf0⟩ := bcell hb0
    go_wp2_with fail
    go_quiet (fail)
    go_wp2_with fail
    refine (hm.out _).mono ?_
    rintro e w1 ⟨rfl, hb1⟩
    go_wp2_with fail
    refine (hn.out _).mono ?_
    rintro e w2 ⟨rfl, hb2⟩
    go_wp2_with fail
    go_ret
    have s0 := hb0.size
    have s1 := hb1.size
    simp at s0 s1
    exact ⟨rfl, (below_drewN ((((Below.refl _ _).alloc (Nat.le_refl _) _).alloc (by simp) _).trans (hb0.mono (by simp; omega))) _).trans ((hb1.mono (by simp; omega)).trans (hb2.mono (by omega)))⟩
  · have k2 : (n == 0) = true := by rw [beq_iff_eq]; omega
    have k1 : (m == 0) = false := by rw [beq_eq_false_iff_ne]; exact k0
    clear h0 k0
    go_enter Try.func3, Try.ntmps3
    go_wp2_with fail
    refine (awake_yes _).mono ?_
    rintro e w0 ⟨rfl, hb0⟩
    obtain ⟨hc0, hf0⟩ := bcell hb0
    go_wp2_with fail
    go_quiet (fail)
    go_wp2_with fail
    refine (hm.out _).mono ?_
    rintro e w1 ⟨rfl, hb1⟩
    go_wp2_with fail
    refine (hn.out _).mono ?_
    rintro e w2 ⟨rfl, hb2⟩
    go_wp2_with fail
    go_ret
    have s0 := hb0.size
    have s1 := hb1.size
    simp at s0 s1
    exact ⟨rfl, (below_drewN ((((Below.refl _ _).alloc (Nat.le_refl _) _).alloc (by simp) _).trans (hb0.mono (by simp; omega))) _).trans ((hb1.mono (by simp; omega)).trans (hb2.mono (by omega)))⟩

set_option maxHeartbeats 1000000 in
theorem orders_both (r1 i1 r2 i2 : Int) (w : World) (h1 : 0 ≤ r1 ∧ r1 ≤ 1073741824 ∧ 0 ≤ i1 ∧ i1 < 15) (h2 : 0 ≤ r2 ∧ r2 ≤ 1073741824 ∧ 0 ≤ i2 ∧ i2 < 15) :
    Calls Try.prog 3 #[.agg #[.int .i64 r1, .int .i64 i1], .agg #[.int .i64 r2, .int .i64 i2]] w fun e w' => e = .returned (.bool true) ∧ Below w.heap.size w w' := by
  have k1 : (16 * r1 + i1 + 1 == 0) = false := by rw [beq_eq_false_iff_ne]; omega
  have k2 : (16 * r2 + i2 + 1 == 0) = false := by rw [beq_eq_false_iff_ne]; omega
  have k3 : (r1 == r1) = true := beq_self_eq_true _
  have k4 : (i1 == i1) = true := beq_self_eq_true _
  obtain ⟨a1, a2, a3, a4⟩ := h1
  obtain ⟨b1, b2, b3, b4⟩ := h2
  go_enter Try.func3, Try.ntmps3
  go_wp2_with fail
  refine (awake_yes _).mono ?_
  rintro e w0 ⟨rfl, hb0⟩
  obtain ⟨hc0, hf0⟩ := bcell hb0
  go_wp2_with fail
  go_quiet (fail)
  go_wp2_with fail
  refine (make_yes r1 i1 _ ⟨a1, a2, a3, a4⟩).mono ?_
  rintro e w1 ⟨rfl, hb1⟩
  go_wp2_with fail
  refine (make_yes r2 i2 _ ⟨b1, b2, b3, b4⟩).mono ?_
  rintro e w2 ⟨rfl, hb2⟩
  go_wp2_with fail
  refine (round_is _ r1 _ (by omega) (by omega) (by omega)).mono ?_
  rintro e w3 ⟨rfl, hb3⟩
  go_wp2_with fail
  refine (id_is _ i1 _ (by omega) (by omega) (by omega)).mono ?_
  rintro e w4 ⟨rfl, hb4⟩
  have s0 := hb0.size
  have s1 := hb1.size
  have s2 := hb2.size
  have s3 := hb3.size
  simp at s0 s1
  have HB : Below w.heap.size w w4 := (below_drewN ((((Below.refl _ _).alloc (Nat.le_refl _) _).alloc (by simp) _).trans (hb0.mono (by simp; omega))) _).trans ((((hb1.mono (by simp; omega)).trans (hb2.mono (by omega))).trans (hb3.mono (by omega))).trans (hb4.mono (by omega)))
  clear hb0 hb1 hb2 hb3 hb4 hc0 hf0 s0 s1 s2 s3
  go_wp2_with fail
  all_goals
    go_ret
    refine ⟨?_, HB⟩
    first
      | rfl
      | exact absurd (by rw [Bool.eq_iff_iff]; simp only [beq_iff_eq]; omega) ‹¬ (16 * r2 + i1 + 1 == 16 * r2 + i2 + 1) = (i1 == i2)›
      | exact ret_bool (by simp; omega)

theorem orders_yes (r1 i1 r2 i2 : Int) (w : World) :
    Calls Try.prog 3 #[.agg #[.int .i64 r1, .int .i64 i1], .agg #[.int .i64 r2, .int .i64 i2]] w fun e w' => e = .returned (.bool true) ∧ Below w.heap.size w w' := by
  obtain ⟨m, hm, cm⟩ := make_some r1 i1
  obtain ⟨n, hn, cn⟩ := make_some r2 i2
  rcases hm with ⟨a1, a2, a3, a4, a5⟩ | ⟨_, a⟩
  · rcases hn with ⟨b1, b2, b3, b4, b5⟩ | ⟨_, b⟩
    · exact orders_both r1 i1 r2 i2 w ⟨a1, a2, a3, a4⟩ ⟨b1, b2, b3, b4⟩
    · exact orders_none r1 i1 r2 i2 m n w (Or.inr b) (Lib.hid cm) (Lib.hid cn)
  · exact orders_none r1 i1 r2 i2 m n w (Or.inl a) (Lib.hid cm) (Lib.hid cn)

theorem next_form (b id : Int) (h0 : nextOf b id ≠ 0) : ∃ k, nextOf b id = 16 * k + id + 1 ∧ 0 ≤ k ∧ k ≤ 1073741824 ∧ 0 ≤ id ∧ id < 15 ∧ (b < 16 * k + id + 1 ∧ 16 * k + id + 1 ≤ b + 16) ∧ 0 ≤ b := by
  unfold nextOf at h0 ⊢
  by_cases h1 : b < 0 ∨ id < 0 ∨ id ≥ 15
  · rw [if_pos h1] at h0; exact absurd rfl h0
  · rw [if_neg h1] at h0 ⊢
    by_cases h4 : 16 * (b / 16) + id + 1 > b
    · rw [if_pos h4] at h0 ⊢
      by_cases h5 : b / 16 ≤ 1073741824
      · rw [if_pos h5]; exact ⟨b / 16, rfl, by omega, by omega, by omega, by omega, by omega, by omega⟩
      · rw [if_neg h5] at h0; exact absurd rfl h0
    · rw [if_neg h4] at h0 ⊢
      by_cases h5 : b / 16 + 1 ≤ 1073741824
      · rw [if_pos h5]; exact ⟨b / 16 + 1, rfl, by omega, by omega, by omega, by omega, by omega, by omega⟩
      · rw [if_neg h5] at h0; exact absurd rfl h0

theorem next_nought (b id : Int) (h0 : nextOf b id = 0) (h1 : 0 ≤ b) (h2 : 0 ≤ id) (h3 : id < 15) : 16 * 1073741824 + id + 1 ≤ b := by
  unfold nextOf at h0
  rw [if_neg (by omega)] at h0
  by_cases h4 : 16 * (b / 16) + id + 1 > b
  · rw [if_pos h4] at h0
    by_cases h5 : b / 16 ≤ 1073741824
    · rw [if_pos h5] at h0; omega
    · omega
  · rw [if_neg h4] at h0
    by_cases h5 : b / 16 + 1 ≤ 1073741824
    · rw [if_pos h5] at h0; omega
    · omega

set_option maxHeartbeats 1000000 in
theorem nexts_nought (b id c : Int) (w : World) (hb : b ≤ 9223372036854775807) (h : Hid (nextOf b id = 0)) :
    Calls Try.prog 6 #[.int .i64 b, .int .i64 id, .int .i64 c] w fun e w' => e = .returned (.bool true) ∧ Below w.heap.size w w' := by
  by_cases h1 : b < 0
  · go_enter Try.func6, Try.ntmps6
    go_wp2_with fail
    refine (awake_yes _).mono ?_
    rintro e w0 ⟨rfl, hb0⟩
    go_wp2_with fail
    refine (next_is _ _ 0 _ hb h.out).mono ?_
    rintro e w1 ⟨rfl, hb1⟩
    go_wp2_with fail
    go_ret
    exact ⟨rfl, below2 hb0 hb1⟩
  · by_cases h2 : id < 0
    · go_enter Try.func6, Try.ntmps6
      go_wp2_with fail
      refine (awake_yes _).mono ?_
      rintro e w0 ⟨rfl, hb0⟩
      go_wp2_with fail
      refine (next_is _ _ 0 _ hb h.out).mono ?_
      rintro e w1 ⟨rfl, hb1⟩
      go_wp2_with fail
      go_ret
      exact ⟨rfl, below2 hb0 hb1⟩
    · by_cases h3 : 15 ≤ id
      · go_enter Try.func6, Try.ntmps6
        go_wp2_with fail
        refine (awake_yes _).mono ?_
        rintro e w0 ⟨rfl, hb0⟩
        go_wp2_with fail
        refine (next_is _ _ 0 _ hb h.out).mono ?_
        rintro e w1 ⟨rfl, hb1⟩
        go_wp2_with fail
        go_ret
        exact ⟨rfl, below2 hb0 hb1⟩
      · have hn := next_nought b id h.out (by omega) (by omega) (by omega)
        go_enter Try.func6, Try.ntmps6
        go_wp2_with fail
        refine (awake_yes _).mono ?_
        rintro e w0 ⟨rfl, hb0⟩
        go_wp2_with fail
        refine (next_is _ _ 0 _ hb h.out).mono ?_
        rintro e w1 ⟨rfl, hb1⟩
        go_wp2_with fail
        refine (make_yes 1073741824 id _ (by omega)).mono ?_
        rintro e w2 ⟨rfl, hb2⟩
        go_wp2_with fail
        go_ret
        exact ⟨ret_bool (by simp; omega), below2 (below2 hb0 hb1) hb2⟩

set_option maxHeartbeats 1000000 in
theorem nexts_some (b id c n m : Int) (w : World) (hb : b ≤ 9223372036854775807) (h : Hid (nextOf b id = n)) (h0 : (n == 0) = false) (h1 : b < n) (h2 : n ≤ b + 16) (h6 : 0 ≤ b) (h7 : n ≤ 9223372036854775807)
    (h3 : 0 < n ∧ n / 16 ≤ 1073741824 ∧ 1 ≤ n % 16) (h4 : Hid (n % 16 - 1 = id)) (h5 : m ≤ b ∨ n ≤ m)
    (hm : Hid (∀ w, Calls Try.prog 12 #[.int .i64 c, .int .i64 id] w fun e w' => e = .returned (.int .i64 m) ∧ Below w.heap.size w w')) :
    Calls Try.prog 6 #[.int .i64 b, .int .i64 id, .int .i64 c] w fun e w' => e = .returned (.bool true) ∧ Below w.heap.size w w' := by
  have k1 : (id == id) = true := beq_self_eq_true _
  rcases h5 with h5 | h5
  · obtain ⟨h31, h32, h33⟩ := h3
    go_enter Try.func6, Try.ntmps6
    go_wp2_with fail
    refine (awake_yes _).mono ?_
    rintro e w0 ⟨rfl, hb0⟩
    go_wp2_with fail
    refine (next_is _ _ n _ hb h.out).mono ?_
    rintro e w1 ⟨rfl, hb1⟩
    go_wp2_with fail
    refine (hm.out _).mono ?_
    rintro e w2 ⟨rfl, hb2⟩
    go_wp2_with fail
    refine (id_is _ id _ (by omega) (by omega) h4.out).mono ?_
    rintro e w3 ⟨rfl, hb3⟩
    go_wp2_with fail
    go_ret
    exact ⟨rfl, below2 (below2 (below2 hb0 hb1) hb2) hb3⟩
  · obtain ⟨h31, h32, h33⟩ := h3
    go_enter Try.func6, Try.ntmps6
    go_wp2_with fail
    refine (awake_yes _).mono ?_
    rintro e w0 ⟨rfl, hb0⟩
    go_wp2_with fail
    refine (next_is _ _ n _ hb h.out).mono ?_
    rintro e w1 ⟨rfl, hb1⟩
    go_wp2_with fail
    refine (hm.out _).mono ?_
    rintro e w2 ⟨rfl, hb2⟩
    go_wp2_with fail
    refine (id_is _ id _ (by omega) (by omega) h4.out).mono ?_
    rintro e w3 ⟨rfl, hb3⟩
    go_wp2_with fail
    go_ret
    exact ⟨ret_bool (by simp; omega), below2 (below2 (below2 hb0 hb1) hb2) hb3⟩

theorem nexts_yes (b id c : Int) (w : World) (hb : b ≤ 9223372036854775807) :
    Calls Try.prog 6 #[.int .i64 b, .int .i64 id, .int .i64 c] w fun e w' => e = .returned (.bool true) ∧ Below w.heap.size w w' := by
  by_cases h0 : nextOf b id = 0
  · exact nexts_nought b id c w hb (Lib.hid h0)
  · obtain ⟨k, h1, h2, h3, h4, h5, h6, h7⟩ := next_form b id h0
    obtain ⟨m, hm, cm⟩ := make_some c id
    exact nexts_some b id c (16 * k + id + 1) m w hb (Lib.hid h1) (by rw [beq_eq_false_iff_ne]; omega) h6.1 h6.2 h7 (by omega) (by omega) (Lib.hid (by omega)) (by omega) (Lib.hid cm)

end Go.Proofs.Ytjfdpggbpmicnaa.B
