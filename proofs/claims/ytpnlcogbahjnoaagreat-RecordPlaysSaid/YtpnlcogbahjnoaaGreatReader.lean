/- codec's Reader: give, must, take, num. Conditions stand at each theorem. -/
import Derived.Test.YtpnlcogbahjnoaaGreatRecs
import Derived.WalkLawsBesides
namespace Go.Proofs.YtpnlcogbahjnoaaGreat.F
open Go.RowKit Go.Proofs.YtpnlcogbahjnoaaGreat.M
set_option linter.unusedVariables false

/-- block p is a reader that has bs left, and failed by f -/
def RdAt (w : World) (p : Nat) (bs : List UInt8) (f : Int) : Prop := ∃ sv, w.heap[p]? = some (.cells #[.bool true, sv, .int .i64 f] 130 (0, 0)) ∧ OB w sv bs
theorem RdAt.fr {S : Nat → Prop} {w w' : World} {p : Nat} {bs : List UInt8} {f : Int} (h : RdAt w p bs f) (hf : Fr S w w') (hp : ¬ S p) (hs : ∀ g, S g → ¬ Tag w g 5) : RdAt w' p bs f := by
  obtain ⟨sv, h1, h2⟩ := h
  exact ⟨sv, hf.obj h1 hp, h2.fr hf hs⟩
theorem RdAt.below {w w' : World} {p : Nat} {bs : List UInt8} {f : Int} (h : RdAt w p bs f) (hb : Below w.heap.size w w') : RdAt w' p bs f :=
  h.fr (Fr.of_below (S := fun _ => False) hb) id (fun _ h => h.elim)
theorem RdAt.lt {w : World} {p : Nat} {bs : List UInt8} {f : Int} (h : RdAt w p bs f) : p < w.heap.size := by
  obtain ⟨sv, h1, h2⟩ := h
  exact lt_of_obj h1
theorem RdAt.not_u8 {w : World} {p : Nat} {bs : List UInt8} {f : Int} (h : RdAt w p bs f) : ¬ Tag w p 5 := by
  obtain ⟨sv, h1, h2⟩ := h
  exact Tag.not h1 (by decide)
/-- the panic of an errno -/
def Pan (e : Int) : List PanicEntry := [{ v := .iface 31 (.int .i64 e), recovered := false }]

set_option maxHeartbeats 400000 in
theorem must_yes (w : World) (b : Bool) (hb : b = true) (e0 : Int) : Calls Tryz.prog 116 #[.bool b, .int .i64 e0] w fun e w' => e = .returned (.tuple #[]) ∧ w' = w := by
  subst hb
  go_enter Tryz.func116, Tryz.ntmps116
  go_wp2_with fail
  go_end0
  exact ⟨rfl, rfl⟩
set_option maxHeartbeats 400000 in
theorem must_no (w : World) (b : Bool) (hb : b = false) (e0 : Int) : Calls Tryz.prog 116 #[.bool b, .int .i64 e0] w fun e w' => e = .panicked (Pan e0) ∧ w' = w := by
  subst hb
  go_enter Tryz.func116, Tryz.ntmps116
  go_wp2_with fail
  exact ⟨rfl, rfl, rfl⟩

theorem rd_put {w : World} {p : Nat} {sv sv2 : Value} {f : Int} {l : List UInt8} (h : w.heap[p]? = some (.cells #[.bool true, sv, .int .i64 f] 130 (0, 0))) (ho : OB w sv2 l) :
    RdAt (w.setCell ⟨p, 1, none⟩ sv2) p l f ∧ Fr (fun k => k = p) w (w.setCell ⟨p, 1, none⟩ sv2) := by
  have z := heap_setCell_at h 1 sv2
  have F : Fr (fun k => k = p) w (w.setCell ⟨p, 1, none⟩ sv2) := Fr.setCell (Fr.refl _ _) _ _ (fun _ => rfl)
  exact ⟨⟨sv2, by simpa using z, ho.fr F (by rintro g rfl; exact Tag.not h (by decide))⟩, F⟩

theorem bytes_cut {w : World} {a : Option Addr} {n cap : Nat} {bs : List UInt8} (h : Bytes w (.slice a n cap) bs) (c : Nat) (hc : c ≤ bs.length) : Bytes w (.slice a c c) (bs.take c) := by
  have hl : (bs.take c).length = c := by simp; omega
  refine ⟨by simp, ?_⟩
  rw [hl]
  rcases h.2 with ⟨h1, h2⟩ | ⟨p, k, h1, hn, hm, hcell⟩
  · obtain rfl : c = 0 := by omega
    cases h1
    exact .inl ⟨rfl, rfl⟩
  · cases h1
    refine .inr ⟨p, _, rfl, Nat.le_refl _, by omega, fun j u hj => hcell j u ?_⟩
    rw [List.map_take, List.getElem?_take] at hj
    split at hj
    · exact hj
    · cases hj
theorem ob_cut {w : World} {a : Option Addr} {n cap : Nat} {bs : List UInt8} (h : OB w (.slice a n cap) bs) (c : Nat) (hc : c ≤ bs.length) : OB w (.slice a c c) (bs.take c) :=
  ⟨bytes_cut h.1 c hc, fun g hg hb => h.2 g (by cases a with
    | none => simp [Value.ownBlock] at hg
    | some p => simpa [Value.ownBlock] using hg) (by rintro rfl; simp at hb)⟩
theorem ob_rest {w : World} {a : Option Addr} {n cap : Nat} {bs : List UInt8} (h : OB w (.slice a n cap) bs) (c L : Nat) (hc : c + L = bs.length) : OB w (.slice (Option.map (fun x : Addr => x.add c) a) L (cap - c)) (bs.drop c) := by
  have := bytes_add h.1 c L (by omega)
  rw [List.take_of_length_le (by simp; omega)] at this
  refine ⟨this, fun g hg hb => h.2 g ?_ (by rintro rfl; simp at hb)⟩
  cases a with
  | none => simp [Value.ownBlock] at hg
  | some p =>
    simp only [Option.map_some, Value.ownBlock, (add_off p c).1] at hg
    simpa [Value.ownBlock] using hg
theorem ob_none {w : World} {a : Option Addr} {n cap : Nat} {bs : List UInt8} (h : OB w (.slice a n cap) bs) (c : Nat) (hc : bs.length ≤ c) : OB w (.slice a 0 0) (bs.drop c) := by
  rw [List.drop_of_length_le hc]
  refine ⟨?_, fun g _ hb => (hb rfl).elim⟩
  cases a with
  | none => exact Reads.nil w 1
  | some p => exact Reads.empty w 1 p 0 (Nat.zero_le _)
set_option maxRecDepth 100000 in
set_option maxHeartbeats 400000 in
theorem take_any (w : World) (p : Nat) (bs : List UInt8) (h : RdAt w p bs 0) (n : Nat) (hn : n ≤ bs.length) :
    Calls Tryz.prog 115 #[.pointer (some ⟨p, 0, none⟩), .int .i64 n] w fun e w' => ∃ v, e = .returned v ∧ OB w' v (bs.take n) ∧ RdAt w' p (bs.drop n) 0 ∧ Fr (fun k => k = p) w w' := by
  obtain ⟨sv, z, ho⟩ := h
  obtain ⟨a, cap, rfl, hc, hm⟩ := ho.1.shape
  have c1 := cell_at z 1
  have f1 := free_at z 1
  simp at c1
  have HZ := Lib.hid z
  have HO := Lib.hid ho
  clear z ho
  by_cases hcn : cap = n
  · have hbn : bs.length - n = 0 := by omega
    subst hcn
    go_enter Tryz.func115, Tryz.ntmps115
    go_wp2_with fail
    refine (must_yes w _ (by first | rfl | exact decide_eq_true (by omega)) 2).mono ?_
    rintro e w' ⟨rfl, rfl⟩
    go_wp2_with fail
    go_ret
    have hd := rd_put HZ.out (sv2 := .slice a 0 0) (ob_none HO.out cap (by omega))
    exact ⟨_, rfl, (ob_cut HO.out cap hn).fr hd.2 (by rintro g rfl; exact Tag.not HZ.out (by decide)), hd.1, hd.2⟩
  · go_enter Tryz.func115, Tryz.ntmps115
    go_wp2_with fail
    refine (must_yes w _ (by first | rfl | exact decide_eq_true (by omega)) 2).mono ?_
    rintro e w' ⟨rfl, rfl⟩
    go_wp2_with fail
    go_ret
    have hd := rd_put HZ.out (ob_rest HO.out n (bs.length - n) (by omega))
    exact ⟨_, rfl, (ob_cut HO.out n hn).fr hd.2 (by rintro g rfl; exact Tag.not HZ.out (by decide)), hd.1, hd.2⟩
set_option maxRecDepth 100000 in
set_option maxHeartbeats 400000 in
theorem take_no (w : World) (p : Nat) (bs : List UInt8) (h : RdAt w p bs 0) (n : Nat) (hn : bs.length < n) :
    Calls Tryz.prog 115 #[.pointer (some ⟨p, 0, none⟩), .int .i64 n] w fun e w' => e = .panicked (Pan 2) ∧ w' = w := by
  obtain ⟨sv, z, ho⟩ := h
  obtain ⟨a, cap, rfl, hc, hm⟩ := ho.1.shape
  have c1 := cell_at z 1
  simp at c1
  clear z ho
  go_enter Tryz.func115, Tryz.ntmps115
  go_wp2_with fail
  refine (must_no w _ (by first | rfl | exact decide_eq_false (by omega)) 2).mono ?_
  rintro e w' ⟨rfl, rfl⟩
  go_wp2_with fail
  exact ⟨rfl, rfl, rfl⟩
end Go.Proofs.YtpnlcogbahjnoaaGreat.F
