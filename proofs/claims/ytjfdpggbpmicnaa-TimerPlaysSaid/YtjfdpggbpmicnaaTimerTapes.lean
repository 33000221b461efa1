/- TimerWaits and TimerTapes answer true, walked. Conditions stand at each theorem. -/
import Derived.Test.YtjfdpggbpmicnaaTimer
namespace Go.Proofs.Ytjfdpggbpmicnaa.T
open Go.RowKit Go.Proofs.Ytjfdpggbpmicnaa.M
set_option linter.unusedVariables false

theorem wait_is (w : World) (x b : Nat) (term wait heard n : Int) (ht : TimerAt w x term wait heard b) (h1 : 0 < term) (hn : wait = n) :
    Calls Try.prog 24 #[.pointer (some ⟨x, 0, none⟩)] w fun e w' => e = .returned (.int .i64 n) ∧ w = w' := by
  rw [← hn]; exact wait_any w x b term wait heard ht h1
theorem due_is (w : World) (x b : Nat) (term wait heard now : Int) (r : Bool) (ht : TimerAt w x term wait heard b) (h1 : 0 < term) (hh : 0 ≤ heard) (hh2 : heard ≤ 1099511627776) (hr : dueT wait heard now = r) :
    Calls Try.prog 28 #[.pointer (some ⟨x, 0, none⟩), .int .i64 now] w fun e w' => e = .returned (.bool r) ∧ ∃ n, w' = w.drewN n := by
  rw [← hr]; exact due_any w x b term wait heard now ht h1 hh hh2

set_option maxHeartbeats 1000000 in
theorem awake_yes (w : World) :
    Calls Try.prog 20 #[] w fun e w' => e = .returned (.bool true) ∧ Below w.heap.size w w' := by
  go_enter Try.func20, Try.ntmps20
  go_wp2_with fail
  refine (newTape_any _).mono ?_
  rintro e w1 ⟨rfl, ht1, hb1⟩
  go_wp2_with fail
  have hB : Below w1.heap.size w1 (w1.alloc (.cells #[.int .u8 7, .int .u8 9] 5)) := (Below.refl _ _).alloc (Nat.le_refl _) _
  refine (add_ok _ w.heap.size [] [7, 9] _ (ht1.below hB) (Bytes.lit [7, 9] (heap_alloc_new w1 _) rfl (by decide)) (by decide) (fun _ h => h.elim)).mono ?_
  rintro e w2 ⟨rfl, ht2, hf2⟩
  have hb2 : Below w.heap.size w w2 := (hb1.trans (hB.mono hb1.size)).trans (hf2.below (Nat.le_trans hb1.size hB.size) (fun x hx => by omega))
  clear hb1 hB hf2 ht1
  go_wp2_with fail
  refine (new_ok w2 w.heap.size 5 _ ht2 (by omega) (by omega)).mono ?_
  rintro e w3 ⟨x, rfl, hx, hT, ht3, hf3⟩
  have hb3 : Below w.heap.size w w3 := hb2.trans (hf3.below hb2.size (fun x hx => by omega))
  clear hb2 hf3
  go_wp2_with fail
  refine (wait_is w3 x _ 5 _ 0 7 hT (by omega) (by decide)).mono ?_
  rintro e w3 ⟨rfl, rfl⟩
  go_wp2_with fail
  refine (due_is w3 x _ 5 _ 0 6 false hT (by omega) (by omega) (by omega) (by decide)).mono ?_
  rintro e w4 ⟨rfl, n, rfl⟩
  go_wp2_with fail
  refine (due_is (w3.drewN n) x _ 5 _ 0 7 true hT (by omega) (by omega) (by omega) (by decide)).mono ?_
  rintro e w4 ⟨rfl, m, rfl⟩
  go_wp2_with fail
  go_ret
  exact ⟨rfl, below_drewN hb3 _⟩

set_option maxHeartbeats 1000000 in
theorem waits_yes (w : World) (term : Int) (a b : UInt8) :
    Calls Try.prog 7 #[.int .i64 term, .int .u8 a.toNat, .int .u8 b.toNat] w fun e w' => e = .returned (.bool true) ∧ Below w.heap.size w w' := by
  by_cases h1 : 1 ≤ term
  · by_cases h2 : term ≤ 1048576
    · obtain ⟨x1, x2⟩ := drawV_range term [a, b] h1
      obtain ⟨y1, y2⟩ := drawV_range term (drawR term [a, b]) h1
      go_enter Try.func7, Try.ntmps7
      go_wp2_with fail
      refine (awake_yes _).mono ?_
      rintro e w0 ⟨rfl, hb0⟩
      go_wp2_with fail
      refine (newTape_any _).mono ?_
      rintro e w1 ⟨rfl, ht1, hb1⟩
      go_wp2_with fail
      have hB : Below w1.heap.size w1 (w1.alloc (.cells #[.int .u8 a.toNat, .int .u8 b.toNat] 5)) := (Below.refl _ _).alloc (Nat.le_refl _) _
      refine (add_ok _ w0.heap.size [] [a, b] _ (ht1.below hB) (Bytes.lit [a, b] (heap_alloc_new w1 _) rfl (by simp)) (by simp) (fun _ h => h.elim)).mono ?_
      rintro e w2 ⟨rfl, ht2, hf2⟩
      have hb2 : Below w.heap.size w w2 := ((hb0.trans (hb1.mono hb0.size)).trans (hB.mono (Nat.le_trans hb0.size hb1.size))).trans (hf2.below (Nat.le_trans (Nat.le_trans hb0.size hb1.size) hB.size) (fun x hx => by have := hb0.size; omega))
      clear hb1 hB hf2 ht1
      go_wp2_with fail
      refine (new_ok w2 w0.heap.size term [a, b] ht2 h1 h2).mono ?_
      rintro e w3 ⟨x, rfl, hx, hT, ht3, hf3⟩
      have hb3 : Below w.heap.size w w3 := hb2.trans (hf3.below hb2.size (fun x hx => by have := hb0.size; omega))
      have hxb : x ≠ w0.heap.size := by obtain ⟨sv, h, _⟩ := ht2; have := lt_of_obj h; omega
      clear hb2 hf3 ht2
      go_wp2_with fail
      refine (new_ok w3 w0.heap.size term (drawR term [a, b]) ht3 h1 h2).mono ?_
      rintro e w4 ⟨y, rfl, hy, hU, ht4, hf4⟩
      have hb4 : Below w.heap.size w w4 := hb3.trans (hf4.below hb3.size (fun x hx => by have := hb0.size; omega))
      have hT4 : TimerAt w4 x term (term + drawV term [a, b]) 0 w0.heap.size := hf4.obj hT hxb
      clear hb3 hf4 hT ht3 ht4 hb0
      have hfin : 256 ≤ term → (decide (drawV term [a, b] < drawV term (drawR term [a, b])) == decide (a.toNat < b.toNat)) = true := by
        intro ht
        have ha := a.toNat_lt
        have hb := b.toNat_lt
        have e1 : drawV term [a, b] = a.toNat := by
          simp only [drawV]
          rw [if_neg (by omega)]
          exact Int.emod_eq_of_lt (by omega) (by omega)
        have e2 : drawV term (drawR term [a, b]) = b.toNat := by
          simp only [drawV, drawR]
          rw [if_neg (by omega), if_neg (by omega)]
          exact Int.emod_eq_of_lt (by omega) (by omega)
        rw [e1, e2, beq_iff_eq, decide_eq_decide]
        omega
      have HF := Lib.hid hfin
      clear hfin
      generalize drawV term [a, b] = p at *
      generalize drawV term (drawR term [a, b]) = q at *
      go_wp2_with fail
      refine (wait_any w4 x _ term (term + p) 0 hT4 (by omega)).mono ?_
      rintro e w4 ⟨rfl, rfl⟩
      go_wp2_with fail
      refine (wait_any w4 x _ term (term + p) 0 hT4 (by omega)).mono ?_
      rintro e w4 ⟨rfl, rfl⟩
      go_wp2_with fail
      refine (wait_any w4 y _ term (term + q) 0 hU (by omega)).mono ?_
      rintro e w4 ⟨rfl, rfl⟩
      go_wp2_with fail
      refine (wait_any w4 y _ term (term + q) 0 hU (by omega)).mono ?_
      rintro e w4 ⟨rfl, rfl⟩
      by_cases h256 : term < 256
      · go_wp2_with fail
        go_ret
        exact ⟨rfl, hb4⟩
      · have HG := HF.out (by omega)
        go_wp2_with fail
        refine (wait_any w4 x _ term (term + p) 0 hT4 (by omega)).mono ?_
        rintro e w4 ⟨rfl, rfl⟩
        go_wp2_with fail
        refine (wait_any w4 y _ term (term + q) 0 hU (by omega)).mono ?_
        rintro e w4 ⟨rfl, rfl⟩
        go_wp2_with fail
        go_ret
        exact ⟨ret_bool (by first | rfl | (rw [HG, Bool.or_true])), hb4⟩
    · go_enter Try.func7, Try.ntmps7
      go_wp2_with fail
      refine (awake_yes _).mono ?_
      rintro e w0 ⟨rfl, hb0⟩
      go_wp2_with fail
      go_ret
      exact ⟨rfl, hb0⟩
  · go_enter Try.func7, Try.ntmps7
    go_wp2_with fail
    refine (awake_yes _).mono ?_
    rintro e w0 ⟨rfl, hb0⟩
    go_wp2_with fail
    go_ret
    exact ⟨rfl, hb0⟩


/-- what is left of a tape behind k draws -/
def restOf (n : Int) (bs : List UInt8) (k : Nat) : List UInt8 := if n < 2 then bs else bs.drop k
theorem restOf_zero (n : Int) (bs : List UInt8) : restOf n bs 0 = bs := by unfold restOf; split <;> rfl
theorem restOf_succ (n : Int) (bs : List UInt8) (k : Nat) : drawR n (restOf n bs k) = restOf n bs (k + 1) := by
  unfold drawR restOf
  split
  · rfl
  · rw [List.tail_drop]

theorem left_is (w : World) (b : Nat) (bs : List UInt8) (m : Nat) (ht : TapeAt w b bs) (hm : bs.length = m) :
    Calls Try.prog 26 #[.pointer (some ⟨b, 0, none⟩)] w fun e w' => e = .returned (.int .i64 m) ∧ w = w' := by
  rw [← hm]; exact left_any w b bs ht
theorem tape_lt {w : World} {b : Nat} {bs : List UInt8} (h : TapeAt w b bs) : b < w.heap.size := by
  obtain ⟨sv, h1, _⟩ := h
  exact lt_of_obj h1
theorem tape_keep {w w' : World} {b c : Nat} {bs cs : List UInt8} (h : TapeAt w b bs) (hc : TapeAt w c cs) (hf : Fr (· = c) w w') (hn : b ≠ c) : TapeAt w' b bs := by
  obtain ⟨sv, h1, _⟩ := hc
  exact h.fr hf hn (by rintro g rfl; exact Tag.not h1 (by decide))

/-- the two draws of a round, and what the law wants of them -/
theorem rest_get (n : Int) (bs : List UInt8) (j : Nat) (h2 : 2 ≤ n) (hj : j < bs.length) : drawV n (restOf n bs j) = (bs[j].toNat : Int) % n := by
  unfold drawV restOf
  rw [if_neg (by omega), if_neg (by omega), List.drop_eq_getElem_cons hj]
theorem rest_none (n : Int) (bs : List UInt8) (j : Nat) (h : n < 2 ∨ bs.length ≤ j) : drawV n (restOf n bs j) = 0 := by
  unfold drawV restOf
  by_cases h2 : n < 2
  · rw [if_pos h2]
  · rw [if_neg h2, if_neg h2, List.drop_eq_nil_of_le (by omega)]

set_option maxRecDepth 100000 in
set_option maxHeartbeats 2000000 in
theorem tapes_small (w : World) (v : Value) (bs : List UInt8) (at_ n : Int) (hv : Bytes w v bs) (hl : bs.length ≤ 5000) (ha : -9223372036854775808 ≤ at_) (ha2 : at_ ≤ 9223372036854775807) (hn : -9223372036854775808 ≤ n) (hn2 : n ≤ 9223372036854775807) :
    Calls Try.prog 8 #[v, .int .i64 at_, .int .i64 n] w fun e w' => e = .returned (.bool true) ∧ Below w.heap.size w w' := by
  obtain ⟨i, hi, hz0, hz1, hz2⟩ := info_parts info5
  have Hi := Lib.hid hi
  have Hz1 := Lib.hid hz1
  clear hi hz0 hz1 hz2
  obtain ⟨a, cap, rfl, hcap, hmax⟩ := hv.shape
  go_enter Try.func8, Try.ntmps8
  go_wp2_with fail
  refine (awake_yes _).mono ?_
  rintro e w0 ⟨rfl, hb0⟩
  have hv0 : Bytes w0 (.slice a bs.length cap) bs := Reads.below hv hb0
  go_upto_region 5 with fail
  go_cut [1] (fun s1 wx => ∃ c : Nat, c ≤ bs.length ∧ s1 = .int .i64 c ∧ w0 = wx)
  case first =>
    go_wp2_with fail
    · go_meet
      case rel => exact ⟨bs.length, Nat.le_refl _, rfl, rfl⟩
    · go_meet
      case rel => exact ⟨at_.toNat, by omega, by congr 1; omega, rfl⟩
    · go_meet
      case rel => exact ⟨at_.toNat, by omega, by congr 1; omega, rfl⟩
  case rest =>
    obtain ⟨c, hc, rfl, rfl⟩ := hcut
    obtain ⟨a1, k1, hs1, hr1, _⟩ := slice_to 34 5 Try.underlying34 i Hi.out w0 1 Hz1.out _ _ _ hv0 c hc
    obtain ⟨a2, k2, hs2, hr2, _⟩ := slice_from 34 5 Try.underlying34 i Hi.out w0 1 Hz1.out _ _ _ hv0 c hc
    go_wp2_with fail
    refine (newTape_any _).mono ?_
    rintro e w1 ⟨rfl, ht1, hb1⟩
    go_wp2_with fail
    refine (newTape_any _).mono ?_
    rintro e w2 ⟨rfl, ht2, hb2⟩
    have hs := tape_lt ht1
    have ht12 := ht1.below hb2
    have hb02 := below2 hb1 hb2
    have hv2 : Bytes w2 (.slice a bs.length cap) bs := Reads.below hv0 hb02
    go_wp2_with fail
    refine (add_ok w2 w0.heap.size [] bs _ ht12 hv2 (by simp; omega) (fun _ h => h.elim)).mono ?_
    rintro e w3 ⟨rfl, ht3, hf3⟩
    rw [List.nil_append] at ht3
    have ht23 := tape_keep ht2 ht12 hf3 (by omega)
    have hb03 : Below w0.heap.size w0 w3 := hb02.trans (hf3.below hb02.size (by rintro x rfl; exact Nat.le_refl _))
    have hp1 : Bytes w3 (.slice a1 c k1) (bs.take c) := by
      have := Reads.below hr1 hb03
      have e : (bs.take c).length = c := by rw [List.length_take]; omega
      simpa [Bytes, e, List.map_take] using this
    have hp2 : Bytes w3 (.slice a2 (bs.length - c) k2) (bs.drop c) := by
      have := Reads.below hr2 hb03
      simpa [Bytes, List.map_drop] using this
    go_wp2_with fail
    refine (add_ok w3 w1.heap.size [] (bs.take c) _ ht23 hp1 (by simp; omega) (fun _ h => h.elim)).mono ?_
    rintro e w4 ⟨rfl, ht4, hf4⟩
    rw [List.nil_append] at ht4
    have ht34 := tape_keep ht3 ht23 hf4 (by omega)
    have hb04 : Below w0.heap.size w0 w4 := hb03.trans (hf4.below hb03.size (by rintro x rfl; omega))
    have hp4 : Bytes w4 (.slice a2 (bs.length - c) k2) (bs.drop c) := hp2.fr hf4 (by
      intro b hb hx hS
      have h1 := Reads.lt hr2 (by intro h; apply hx; rw [← List.map_drop] at h; simpa using h) b hb
      omega)
    go_wp2_with fail
    refine (add_ok w4 w1.heap.size (bs.take c) (bs.drop c) _ ht4 hp4 (by simp; omega) (fun _ h => h.elim)).mono ?_
    rintro e w5 ⟨rfl, ht5, hf5⟩
    rw [List.take_append_drop] at ht5
    have ht45 := tape_keep ht34 ht4 hf5 (by omega)
    have hb05 : Below w0.heap.size w0 w5 := hb04.trans (hf5.below hb04.size (by rintro x rfl; omega))
    have hb5 : Below w.heap.size w w5 := hb0.trans (hb05.mono hb0.size)
    have hlt : w0.heap.size < w1.heap.size := hs
    have hne : w0.heap.size ≠ w1.heap.size := by omega
    have hsz := hb0.size
    clear hv0 hb03 hb04 hb02 hb1 hb2 hp1 hp2 hp4 hr1 hr2 hs1 hs2 ht1 ht2 ht12 ht23 ht3 ht34 ht4 hf3 hf4 hf5 hv2 hs hb0 hb05
    generalize w0.heap.size = s at *
    generalize w1.heap.size = t at *
    go_wp2_with fail
    have hv5 : Bytes w5 (.slice a bs.length cap) bs := Reads.below hv hb5
    go_loopg [9] (bs.length + 2) (fun k i wr => ∃ j : Nat, j ≤ bs.length + 2 ∧ k + j = bs.length + 2 ∧ i = .int .i64 j ∧ TapeAt wr s (restOf n bs j) ∧ TapeAt wr t (restOf n bs j) ∧ Below w.heap.size w wr)
    case atStart => exact ⟨0, by omega, by omega, rfl, by rw [restOf_zero]; exact ht45, by rw [restOf_zero]; exact ht5, hb5⟩
    case round =>
      obtain ⟨j, hj, hk, rfl, hts, htt, hbr⟩ := hrel
      by_cases hlt : j < bs.length + 2
      · go_wp2_with fail
        refine (draw_any wr s n (restOf n bs j) hts hn2).mono ?_
        rintro e wa ⟨rfl, hta, hfa⟩
        go_wp2_with fail
        refine (draw_any wa t n (restOf n bs j) (tape_keep htt hts hfa (Ne.symm hne)) hn2).mono ?_
        rintro e wb ⟨rfl, htb, hfb⟩
        rw [restOf_succ] at hta htb
        have htab := tape_keep hta (tape_keep htt hts hfa (Ne.symm hne)) hfb hne
        have hba : Below w.heap.size w wa := hbr.trans (hfa.below hbr.size (by rintro x rfl; omega))
        have hbb : Below w.heap.size w wb := hba.trans (hfb.below hba.size (by rintro x rfl; omega))
        clear hta hfa hfb hba hts htt
        go_wp2_with fail
        refine (left_any wb s _ htab).mono ?_
        rintro e w9 ⟨rfl, rfl⟩
        go_wp2_with fail
        refine (left_any wb t _ htb).mono ?_
        rintro e w9 ⟨rfl, rfl⟩
        by_cases hn3 : 2 ≤ n
        · by_cases hjl : j < bs.length
          · have hd := rest_get n bs j hn3 hjl
            have hcb : bs[j].toNat < 256 := bs[j].toNat_lt
            obtain ⟨g, o, hix, hcell, _⟩ := index_reads 34 5 Try.underlying34 i Hi.out w Hz1.out _ _ _ hv j (u8 bs[j]) (by simp [hjl])
            have hcell2 : wb.cell? ⟨g, o, none⟩ = some (.int .u8 bs[j].toNat) := (hbb.cell (p := ⟨g, o, none⟩) (World.block_lt_of_cell? w _ hcell)).trans hcell
            clear hcell
            generalize drawV n (restOf n bs j) = p at *
            subst hd
            go_wp2_with fail
            go_roundg (bs.length + 2 - (j + 1))
            case measure => omega
            case rel => exact ⟨j + 1, by omega, by omega, by go_num, htab, htb, hbb⟩
          · have hd := rest_none n bs j (Or.inr (by omega))
            generalize drawV n (restOf n bs j) = p at *
            subst hd
            go_wp2_with fail
            go_roundg (bs.length + 2 - (j + 1))
            case measure => omega
            case rel => exact ⟨j + 1, by omega, by omega, by go_num, htab, htb, hbb⟩
        · have hd := rest_none n bs j (Or.inl (by omega))
          generalize drawV n (restOf n bs j) = p at *
          subst hd
          go_wp2_with fail
          go_roundg (bs.length + 2 - (j + 1))
          case measure => omega
          case rel => exact ⟨j + 1, by omega, by omega, by go_num, htab, htb, hbb⟩
      · by_cases hn3 : n < 2
        · have hr : (restOf n bs j).length = bs.length := by simp [restOf, hn3]
          have HR := Lib.hid hr
          clear hr
          go_wp2_with fail
          refine (left_is wr s _ bs.length hts HR.out).mono ?_
          rintro e w9 ⟨rfl, rfl⟩
          go_wp2_with fail
          go_ret
          exact ⟨rfl, hbr⟩
        · have hr : (restOf n bs j).length = 0 := by simp [restOf, hn3]; omega
          have HR := Lib.hid hr
          clear hr
          go_wp2_with fail
          refine (left_is wr s _ 0 hts HR.out).mono ?_
          rintro e w9 ⟨rfl, rfl⟩
          go_wp2_with fail
          go_ret
          exact ⟨rfl, hbr⟩

set_option maxHeartbeats 400000 in
theorem tapes_big (w : World) (v : Value) (bs : List UInt8) (at_ n : Int) (hv : Bytes w v bs) (hl : 5000 < bs.length) :
    Calls Try.prog 8 #[v, .int .i64 at_, .int .i64 n] w fun e w' => e = .returned (.bool true) ∧ Below w.heap.size w w' := by
  obtain ⟨a, cap, rfl, hcap, hmax⟩ := hv.shape
  go_enter Try.func8, Try.ntmps8
  go_wp2_with fail
  refine (awake_yes _).mono ?_
  rintro e w0 ⟨rfl, hb0⟩
  go_wp2_with fail
  go_ret
  exact ⟨rfl, hb0⟩

end Go.Proofs.Ytjfdpggbpmicnaa.T
