/- Chapter 19's examples: what TimerKnown answers. Conditions: none. -/
import Derived.Test.YtjfdpggbpmicnaaTimerTapes
namespace Go.Proofs.Ytjfdpggbpmicnaa.T
open Go.RowKit Go.Proofs.Ytjfdpggbpmicnaa.M
set_option linter.unusedVariables false

/-- n noughts -/
def Zs (n : Nat) : Array Value := ((List.replicate n (0 : UInt8)).map u8).toArray

theorem make_bytes (n : Nat) (hn : n ≤ 1099511627776) (w : World) :
    (Instr.makeSlice 34 (.int .i64 n) (.int .i64 n)).run Try.prog w = .ok (.slice (some ⟨w.heap.size, 0, none⟩) n n) (w.alloc (.cells (Zs n) 5)) := by
  obtain ⟨i, hi, hz0, hz1, hz2⟩ := info_parts info5
  rw [run_make w 34 5 i (.int .u8 0) Try.underlying34 hi hz0 .i64 .i64 n n (by omega) (by omega) (by rw [hz2]; omega) (by omega)]
  congr 2
  rw [hz1]
  congr 1
  simp [madeCells, Zs, Value.cells, u8]
  apply Array.ext
  · simp
  · intro j h1 h2
    simp [Nat.mod_one]

set_option maxRecDepth 100000 in
set_option maxHeartbeats 2000000 in
theorem known_yes (w : World) :
    Calls Try.prog 9 #[] w fun e w' => e = .returned (.bool true) ∧ Below w.heap.size w w' := by
  have hmk : ∀ w : World, (Instr.makeSlice 34 (.int .i64 65536) (.int .i64 65536)).run Try.prog w = .ok (.slice (some ⟨w.heap.size, 0, none⟩) 65536 65536) (w.alloc (.cells (Zs 65536) 5)) := fun w => make_bytes 65536 (by omega) w
  go_enter Try.func9, Try.ntmps9
  go_wp2_with fail
  refine (awake_yes _).mono ?_
  rintro e w0 ⟨rfl, hb0⟩
  go_wp2_with fail
  refine (newTape_any _).mono ?_
  rintro e w1 ⟨rfl, ht1, hb1⟩
  go_wp2_with fail
  have hB : Below w1.heap.size w1 (w1.alloc (.cells #[.int .u8 7, .int .u8 9] 5)) := (Below.refl _ _).alloc (Nat.le_refl _) _
  refine (add_ok _ w0.heap.size [] [7, 9] _ (ht1.below hB) (Bytes.lit [7, 9] (heap_alloc_new w1 _) rfl (by decide)) (by decide) (fun _ h => h.elim)).mono ?_
  rintro e w2 ⟨rfl, ht2, hf2⟩
  have hb2 : Below w.heap.size w w2 := ((hb0.trans (hb1.mono hb0.size)).trans (hB.mono (Nat.le_trans hb0.size hb1.size))).trans (hf2.below (Nat.le_trans (Nat.le_trans hb0.size hb1.size) hB.size) (fun x hx => by have := hb0.size; omega))
  have hs0 := hb0.size
  clear hb1 hB hf2 ht1 hb0
  generalize w0.heap.size = b at *
  go_wp2_with fail
  refine (new_ok w2 b 5 _ ht2 (by omega) (by omega)).mono ?_
  rintro e w3 ⟨x, rfl, hx, hT, ht3, hf3⟩
  have hb3 : Below w.heap.size w w3 := hb2.trans (hf3.below hb2.size (fun x hx => by omega))
  have hxb : x ≠ b := by have := tape_lt ht2; omega
  have hx0 : w.heap.size ≤ x := Nat.le_trans hb2.size hx
  clear hb2 hf3 ht2 hx
  go_wp2_with fail
  refine (again_yes w3 x b _ 5 _ 0 7 hT (by omega) (by omega) (Lib.hid (by decide)) ht3 hxb).mono ?_
  rintro e w4 ⟨rfl, hT4, ht4, hf4⟩
  have hb4 : Below w.heap.size w w4 := hb3.trans (hf4.below hb3.size (by rintro y (rfl | rfl) <;> omega))
  clear hb3 hf4 hT ht3
  go_wp2_with fail
  refine (new_bad w4 _ 0 (Or.inl (by omega))).mono ?_
  rintro e w4 ⟨rfl, rfl⟩
  go_wp2_with fail
  refine (new_bad w4 none 5 (Or.inr (Or.inr rfl))).mono ?_
  rintro e w4 ⟨rfl, rfl⟩
  have ht4' : TapeAt w4 b [] := ht4
  go_wp2_with fail
  refine (wait_is w4 x _ 5 _ _ 9 hT4 (by omega) (by decide)).mono ?_
  rintro e w4 ⟨rfl, rfl⟩
  go_wp2_with fail
  refine (due_is w4 x _ 5 _ _ 15 false hT4 (by omega) (by omega) (by omega) (by decide)).mono ?_
  rintro e w5 ⟨rfl, n, rfl⟩
  go_wp2_with fail
  refine (due_is (w4.drewN n) x _ 5 _ _ 16 true hT4 (by omega) (by omega) (by omega) (by decide)).mono ?_
  rintro e w5 ⟨rfl, m, rfl⟩
  go_wp2_with fail
  have ht5 : TapeAt (w4.drewN (n + m)) b [] := ht4'
  refine (left_is _ b [] 0 ht5 rfl).mono ?_
  rintro e w5 ⟨rfl, rfl⟩
  go_wp2_with fail
  refine (draw_any _ b 9 [] ht5 (by omega)).mono ?_
  rintro e w6 ⟨rfl, ht6, hf6⟩
  have e6 : drawV 9 [] = 0 := by decide
  rw [e6]
  clear e6
  have hb6 : Below w.heap.size w w6 := (below_drewN hb4 _).trans (hf6.below (by have := hb4.size; simpa using this) (by rintro y rfl; omega))
  go_wp2_with fail
  have hB6 : Below w6.heap.size w6 (w6.alloc (.cells (Zs 65536) 5)) := (Below.refl _ _).alloc (Nat.le_refl _) _
  have hz : Bytes (w6.alloc (.cells (Zs 65536) 5)) (.slice (some ⟨w6.heap.size, 0, none⟩) 65536 65536) (List.replicate 65536 0) := by
    have := Bytes.lit (List.replicate 65536 0) (heap_alloc_new w6 (.cells (Zs 65536) 5)) rfl (by rw [List.length_replicate]; omega)
    rw [List.length_replicate] at this
    exact this
  refine (add_ok _ b [] (List.replicate 65536 0) _ (ht6.below hB6) hz (by rw [List.length_replicate]; exact Nat.le_refl _) (fun _ h => h.elim)).mono ?_
  rintro e w7 ⟨rfl, ht7, hf7⟩
  have hb7 : Below w.heap.size w w7 := (hb6.trans (hB6.mono hb6.size)).trans (hf7.below (Nat.le_trans hb6.size hB6.size) (by rintro y rfl; omega))
  go_wp2_with fail
  have hB7 : Below w7.heap.size w7 (w7.alloc (.cells #[.int .u8 1] 5)) := (Below.refl _ _).alloc (Nat.le_refl _) _
  refine (add_full _ b _ [1] _ (ht7.below hB7) (Bytes.lit [1] (heap_alloc_new w7 _) rfl (by decide)) (by rw [List.length_append, List.length_replicate]; simp)).mono ?_
  rintro e w8 ⟨rfl, rfl⟩
  go_wp2_with fail
  go_ret
  exact ⟨rfl, hb7.alloc hb7.size _⟩

end Go.Proofs.Ytjfdpggbpmicnaa.T
