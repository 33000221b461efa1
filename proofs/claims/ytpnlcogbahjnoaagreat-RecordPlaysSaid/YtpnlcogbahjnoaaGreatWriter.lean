/- codec's Writer: what it writes. Conditions stand at each theorem. -/
import Derived.Test.YtpnlcogbahjnoaaGreatUnframe
import Derived.Laws.BytesArg
import Derived.Lib.AppendStr
namespace Go.Proofs.YtpnlcogbahjnoaaGreat.F
open Go.RowKit Go.Proofs.YtpnlcogbahjnoaaGreat.M
set_option linter.unusedVariables false

def encNum (n : Nat) : List UInt8 := if h : n < 128 then [UInt8.ofNat n] else UInt8.ofNat (n % 128 + 128) :: encNum (n / 128)
termination_by n
decreasing_by omega
theorem encNum_small {n : Nat} (h : n < 128) : encNum n = [UInt8.ofNat n] := by rw [encNum, dif_pos h]
theorem encNum_big {n : Nat} (h : ¬ n < 128) : encNum n = UInt8.ofNat (n % 128 + 128) :: encNum (n / 128) := by rw [encNum, dif_neg h]
theorem encNum_len (f : Nat) : ∀ n, n < 128 ^ (f + 1) → (encNum n).length ≤ f + 1 := by
  induction f with
  | zero => intro n h; rw [encNum_small (by simpa using h)]; simp
  | succ f ih =>
    intro n h
    by_cases hs : n < 128
    · rw [encNum_small hs]; simp
    · rw [encNum_big hs]
      have := ih (n / 128) (by rw [Nat.div_lt_iff_lt_mul (by decide), ← Nat.pow_succ]; exact h)
      simpa using this

/-- block p is a writer that has written bs -/
def WrAt (w : World) (base p : Nat) (bs : List UInt8) : Prop := base ≤ p ∧ base ≤ w.heap.size ∧ ∃ sv, w.heap[p]? = some (.cells #[.bool true, sv, .int .i64 0] 111 (0, 0)) ∧ w.ownsRow base 5 1 sv bs.length (bs.map M.u8)

theorem WrAt.quiet {w w' : World} {base p : Nat} {bs : List UInt8} (h : WrAt w base p bs) (hb : Below w.heap.size w w') : WrAt w' base p bs := by
  obtain ⟨h1, h2, sv, h3, h4⟩ := h
  refine ⟨h1, Nat.le_trans h2 hb.size, sv, (hb.block p (lt_of_obj h3)).trans h3, h4.1, ?_⟩
  rcases h4.2 with h | ⟨g, cap, cur, rfl, hg, hh, r⟩
  · exact .inl h
  · exact .inr ⟨g, cap, cur, rfl, hg, (hb.block g (lt_of_obj hh)).trans hh, r⟩

theorem ownsRow_fr {S : Nat → Prop} {w w' : World} {base : Nat} {e : TypeId} {size : Nat} {v : Value} {n : Nat} {xs : List Value} (h : w.ownsRow base e size v n xs) (hf : Fr S w w') (hd : ∀ g, v.ownBlock = some g → ¬ S g) : w'.ownsRow base e size v n xs := by
  refine ⟨h.1, ?_⟩
  rcases h.2 with h | ⟨g, cap, cur, rfl, hbg, hg, r⟩
  · exact .inl h
  · exact .inr ⟨g, cap, cur, rfl, hbg, hf.obj hg (hd g rfl), r⟩
theorem ownsRow_tag {w : World} {base : Nat} {e : TypeId} {size : Nat} {v : Value} {n : Nat} {xs : List Value} (h : w.ownsRow base e size v n xs) {g : Nat} (hg : v.ownBlock = some g) : Tag w g e ∧ base ≤ g := by
  rcases h.2 with ⟨rfl, _⟩ | ⟨g', cap, cur, rfl, hbg, hh, r⟩
  · simp [Value.ownBlock] at hg
  · simp only [Value.ownBlock, Option.some.injEq] at hg
    subst hg
    exact ⟨⟨_, _, hh⟩, hbg⟩

/-- what was appended is stored -/
theorem wr_put {w w1 w2 : World} {base p : Nat} {bs ys : List UInt8} {sv v2 : Value} (hp : base ≤ p) (hB : base ≤ w.heap.size) (h : w.heap[p]? = some (.cells #[.bool true, sv, .int .i64 0] 111 (0, 0)))
    (ho : w.ownsRow base 5 1 sv bs.length (bs.map M.u8)) (hf : Fr (fun _ => False) w w1) (hg : w1.grownBy w2 sv.ownBlock) (h2 : w2.ownsRow base 5 1 v2 (bs ++ ys).length ((bs ++ ys).map M.u8)) :
    WrAt (w2.setCell ⟨p, 1, none⟩ v2) base p (bs ++ ys) ∧ Below base w (w2.setCell ⟨p, 1, none⟩ v2) := by
  have hnp : ¬ sv.ownBlock = some p := fun e => Tag.not h (by decide) (ownsRow_tag ho e).1
  have F2 : Fr (fun k => base ≤ k ∧ sv.ownBlock = some k) w w2 := Fr.trans (S := fun k => base ≤ k ∧ sv.ownBlock = some k) (hf.mono (fun _ _ h => h.elim)) (Fr.of_grown (S := fun k => base ≤ k ∧ sv.ownBlock = some k) hg (fun k hk _ => ⟨(ownsRow_tag ho hk).2, hk⟩)) (fun _ _ h => h)
  have z2 := F2.obj h (fun hh => hnp hh.2)
  have z3 := heap_setCell_at z2 1 v2
  simp at z3
  have F3 : Fr (fun k => k = p) w2 (w2.setCell ⟨p, 1, none⟩ v2) := Fr.setCell (Fr.refl _ _) _ _ (fun _ => rfl)
  refine ⟨⟨hp, Nat.le_trans hB (Nat.le_trans F2.size F3.size), v2, z3, ownsRow_fr h2 F3 ?_⟩, ?_⟩
  · rintro g hg rfl
    exact Tag.not z2 (by decide) (ownsRow_tag h2 hg).1
  · exact ((F2.mono (S' := fun k => base ≤ k) (fun _ _ h => h.1)).trans F3 (fun x _ h => by subst h; exact hp)).below hB (fun _ h => h)

theorem one_cell {w : World} {g : Nat} {c : Value} {e : TypeId} {fz : Nat × Nat} (h : w.heap[g]? = some (.cells #[c] e fz)) : ∀ j u, [c][j]? = some u → w.cell? ((⟨g, 0, none⟩ : Addr).add j) = some u := by
  intro j u hj
  match j, hj with
  | 0, hj =>
    cases hj
    rw [add_map]
    simpa using cell_at h 0
theorem wr_keep {w w1 w2 : World} {base p : Nat} {bs : List UInt8} {sv : Value} (h : w.heap[p]? = some (.cells #[.bool true, sv, .int .i64 0] 111 (0, 0)))
    (ho : w.ownsRow base 5 1 sv bs.length (bs.map M.u8)) (hf : Fr (fun _ => False) w w1) (hg : w1.grownBy w2 sv.ownBlock) : w2.cell? ⟨p, 1, none⟩ = some sv ∧ w2.frozen? ⟨p, 1, none⟩ = false := by
  have hnp : ¬ sv.ownBlock = some p := fun e => Tag.not h (by decide) (ownsRow_tag ho e).1
  have F2 : Fr (fun k => sv.ownBlock = some k) w w2 := Fr.trans (S := fun k => sv.ownBlock = some k) (hf.mono (fun _ _ h => h.elim)) (Fr.of_grown (S := fun k => sv.ownBlock = some k) hg (fun k hk _ => hk)) (fun _ _ h => h)
  have z2 := F2.obj h hnp
  exact ⟨by simpa using cell_at z2 1, free_at z2 1⟩
theorem or128 : ∀ x : Fin 256, bits .or .u8 (x.val : Int) 128 = ((x.val % 128 + 128 : Nat) : Int) := by decide +kernel
theorem or_u8 (m : Nat) : bits .or .u8 ((m : Int) % 256) 128 = ((UInt8.ofNat (m % 128 + 128)).toNat : Nat) := by
  have h := or128 ⟨m % 256, Nat.mod_lt _ (by decide)⟩
  have e : ((m % 256 : Nat) : Int) = (m : Int) % 256 := by omega
  simp only [e] at h
  rw [h, UInt8.toNat_ofNat']
  have : m % 256 % 128 = m % 128 := by omega
  rw [this]
  omega

set_option maxHeartbeats 400000 in
theorem newWriter_any (w : World) :
    Calls Tryz.prog 55 #[] w fun e w' => ∃ p, e = .returned (.pointer (some ⟨p, 0, none⟩)) ∧ WrAt w' w.heap.size p [] ∧ Below w.heap.size w w' := by
  go_enter Tryz.func55, Tryz.ntmps55
  go_wp2_with fail
  go_ret
  refine ⟨_, rfl, ⟨Nat.le_refl _, by simp, .slice none 0 0, ?_, World.ownsRow_nil _ _ _ _⟩, (Below.refl _ w).alloc (Nat.le_refl _) _⟩
  exact heap_alloc_new w (.cells #[.bool true, .slice none 0 0, .int .i64 0] 111)

set_option maxHeartbeats 400000 in
theorem may_any (w : World) (base p : Nat) (bs : List UInt8) (h : WrAt w base p bs) (b : Bool) (hb : b = true) (e0 : Int) :
    Calls Tryz.prog 72 #[.pointer (some ⟨p, 0, none⟩), .bool b, .int .i64 e0] w fun e w' => e = .returned (.bool true) ∧ w' = w := by
  subst hb
  obtain ⟨-, -, sv, h3, -⟩ := h
  have c0 := cell_at h3 0
  have c2 := cell_at h3 2
  simp at c0 c2
  clear h3
  go_enter Tryz.func72, Tryz.ntmps72
  go_wp2_with fail
  go_ret
  exact ⟨rfl, rfl⟩

set_option maxRecDepth 100000 in
set_option maxHeartbeats 1000000 in
theorem wnum_any (w : World) (base p : Nat) (bs : List UInt8) (h : WrAt w base p bs) (n : Nat) (hn : n ≤ 1099511627776) (hl : bs.length ≤ 1099511627776) :
    Calls Tryz.prog 56 #[.pointer (some ⟨p, 0, none⟩), .int .i64 n] w fun e w' => e = .returned (.tuple #[]) ∧ WrAt w' base p (bs ++ encNum n) ∧ Below base w w' := by
  obtain ⟨i, hi, hz0, hz1, hz2⟩ := info_parts infoU8
  have HW := Lib.hid h
  have Hi := Lib.hid hi
  have Hz0 := Lib.hid hz0
  have Hz1 := Lib.hid hz1
  have Hz2 := Lib.hid hz2
  clear h hi hz0 hz1 hz2
  go_enter Tryz.func56, Tryz.ntmps56
  go_wp2_with fail
  refine (may_any w base p bs HW.out _ (decide_eq_true (by omega)) 1).mono ?_
  rintro e w' ⟨rfl, rfl⟩
  go_wp2_with fail
  go_loopg [1] n (fun k s1 wr => ∃ (m : Nat) (ds : List UInt8), k = m ∧ m ≤ n ∧ s1 = .int .i64 m ∧ ds ++ encNum m = encNum n ∧ ds.length + m ≤ n ∧ Hid (WrAt wr base p (bs ++ ds)) ∧ Below base w' wr)
  case atStart => exact ⟨n, [], rfl, Nat.le_refl _, rfl, rfl, by simp, by rw [List.append_nil]; exact HW, Below.refl _ _⟩
  case round =>
    obtain ⟨m, ds, hgk, hm, rfl, hds, hlen, hwr, hb⟩ := hrel
    subst hgk
    have HB := Lib.hid hb
    have HDS := Lib.hid hds
    clear hb hds
    obtain ⟨hp, hB, sv, z, ho⟩ := hwr.out
    have hlb : (bs ++ ds).length ≤ 2199023255552 := by simp; omega
    obtain ⟨sa, scap, hsv, hs1, hs2⟩ := (Owns.of_row ho).reads.shape
    generalize hbd : bs ++ ds = bd at *
    have HBD := Lib.hid hbd
    clear hbd
    subst hsv
    have c1 := cell_at z 1
    have f1 := free_at z 1
    simp at c1
    have HO := Lib.hid ho
    have HZ := Lib.hid z
    clear ho z
    by_cases hbig : gk < 128
    · have ecell : M.u8 (UInt8.ofNat gk) = .int .u8 (gk : Int) := by
        have : (UInt8.ofNat gk).toNat = gk := by rw [UInt8.toNat_ofNat']; omega
        simp [M.u8, this]
      go_wp2_with (at_builtin; refine wpList_append_own _ rfl _ _ 52 rfl base 5 i (.int .u8 0) 1 1 Tryz.underlying52 Hi.out Hz0.out Hz1.out Hz2.out rfl (by decide) (.slice sa bd.length scap) bd.length _ rfl (ownsRow_fr HO.out ((Fr.refl (fun _ => False) _).alloc _) (fun _ _ => id)) ⟨wr.heap.size, 0, none⟩ 1 1 [.int .u8 (gk : Int)] rfl rfl (one_cell (heap_alloc_new wr _)) (by simp [Value.oneCell']) (by simp only [maxLen]; omega) (by omega) (Nat.le_trans hB (by simp)) ?_; intro v2 w2 h2 h3 h4; obtain ⟨q5, k5, rfl, -, -⟩ := (Owns.of_row h2).reads.shape; obtain ⟨q1, q2⟩ := wr_keep HZ.out HO.out ((Fr.refl (fun _ => False) wr).alloc _) h3; have H2 := Lib.hid h2; have H3 := Lib.hid h3; clear h2 h3 h4)
      go_end0
      have hd := wr_put hp hB HZ.out HO.out ((Fr.refl (fun _ => False) wr).alloc _) H3.out (ys := [UInt8.ofNat gk]) (by
        have := H2.out
        rw [← ecell] at this
        simpa using this)
      have e : bd ++ [UInt8.ofNat gk] = bs ++ encNum n := by rw [← HDS.out, encNum_small hbig, ← HBD.out, List.append_assoc]
      rw [e] at hd
      exact ⟨rfl, hd.1, HB.out.trans hd.2⟩
    · have hor := or_u8 gk
      go_wp2_with (at_builtin; refine wpList_append_own _ rfl _ _ 52 rfl base 5 i (.int .u8 0) 1 1 Tryz.underlying52 Hi.out Hz0.out Hz1.out Hz2.out rfl (by decide) (.slice sa bd.length scap) bd.length _ rfl (ownsRow_fr HO.out ((Fr.refl (fun _ => False) _).alloc _) (fun _ _ => id)) ⟨wr.heap.size, 0, none⟩ 1 1 [.int .u8 ((UInt8.ofNat (gk % 128 + 128)).toNat : Nat)] rfl rfl (one_cell (heap_alloc_new wr _)) (by simp [Value.oneCell']) (by simp only [maxLen]; omega) (by omega) (Nat.le_trans hB (by simp)) ?_; intro v2 w2 h2 h3 h4; obtain ⟨q5, k5, rfl, -, -⟩ := (Owns.of_row h2).reads.shape; obtain ⟨q1, q2⟩ := wr_keep HZ.out HO.out ((Fr.refl (fun _ => False) wr).alloc _) h3; have H2 := Lib.hid h2; have H3 := Lib.hid h3; clear h2 h3 h4)
      have hd := wr_put hp hB HZ.out HO.out ((Fr.refl (fun _ => False) wr).alloc _) H3.out (ys := [UInt8.ofNat (gk % 128 + 128)]) (by
        have := H2.out
        simpa [M.u8] using this)
      have HD := Lib.hid hd
      clear hd
      go_roundg (gk / 128)
      case measure => omega
      case rel =>
        refine ⟨gk / 128, ds ++ [UInt8.ofNat (gk % 128 + 128)], rfl, by omega, by simp, ?_, by simp; omega, ?_, HB.out.trans HD.out.2⟩
        · rw [← HDS.out, encNum_big hbig, List.append_assoc]; rfl
        · rw [← List.append_assoc, HBD.out]; exact Lib.hid HD.out.1
end Go.Proofs.YtpnlcogbahjnoaaGreat.F
