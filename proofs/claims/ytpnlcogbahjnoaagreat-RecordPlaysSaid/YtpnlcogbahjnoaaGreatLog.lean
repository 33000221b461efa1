/- record.Create, (*Log).Append: what they do to a disk with one file. Conditions stand at each theorem. -/
import Derived.Test.YtpnlcogbahjnoaaGreatScan
import Derived.Test.YtpnlcogbahjnoaaGreatOne
import Derived.Test.YtpnlcogbahjnoaaGreatTrunc
namespace Go.Proofs.YtpnlcogbahjnoaaGreat.F
open Go.RowKit Go.Proofs.YtpnlcogbahjnoaaGreat.M
set_option linter.unusedVariables false

theorem size_of_named {s : ByteArray} {k : List UInt8} (hk : s.data.toList = k) (hn : named k = true) : s.size ≤ 24 ∧ s.size ≤ maxLen := by
  have h1 : s.size = k.length := by rw [← hk]; simp
  have h2 : k.length ≤ 24 := by simp [named] at hn; omega
  exact ⟨by omega, by simp only [maxLen]; omega⟩
theorem app_f (w : World) (f b m : Nat) (st fu : Int) (k bs : List UInt8) (l : Nat) (h : Files w f b m (one k bs l) st fu false) (s : ByteArray) (hk : s.data.toList = k) (hn : named k = true) (v : Value) (cs : List UInt8) (hv : Bytes w v cs) (hl : bs.length + cs.length ≤ 1099511627776)
    (hm : m ≤ 1099511627776) (h1 : 0 ≤ st) (h2 : st ≤ 1099511627776) (h4 : fu ≤ 9223372036854775807) :
    Calls Tryz.prog 25 #[.pointer (some ⟨f, 0, none⟩), .string s, v] w fun e w' => e = .returned (.int .i64 (stepE fu)) ∧ Files w' f b (m + 1) (one k (bs ++ cs) l) (st + 1) (stepF fu) (decide (fu = 0)) ∧ Fr (fun k => k = f ∨ k = b) w w' := by
  subst hk
  refine (append_ok w f b m _ st fu h s hn v cs hv (by rw [one_cb]; exact hl) hm h1 h2 h4).mono ?_
  rintro e w' ⟨rfl, hF, hG⟩
  rw [one_cb, one_cl, upd_one] at hF
  exact ⟨rfl, hF, hG⟩
/-- how much lasts behind a Sync at a fuse -/
def syncL (fu : Int) (l n : Nat) : Nat := if fu = 0 then l else n
theorem syn_f (w : World) (f b m : Nat) (st fu : Int) (k bs : List UInt8) (l : Nat) (h : Files w f b m (one k bs l) st fu false) (s : ByteArray) (hk : s.data.toList = k) (hn : named k = true)
    (hm : m ≤ 1099511627776) (h1 : 0 ≤ st) (h2 : st ≤ 1099511627776) (h4 : fu ≤ 9223372036854775807) :
    Calls Tryz.prog 26 #[.pointer (some ⟨f, 0, none⟩), .string s] w fun e w' => e = .returned (.int .i64 (stepE fu)) ∧ Files w' f b (m + 1) (one k bs (syncL fu l bs.length)) (st + 1) (stepF fu) (decide (fu = 0)) ∧ Fr (fun k => k = f ∨ k = b) w w' := by
  have hs := (size_of_named hk hn).2
  subst hk
  refine (sync_ok w f b m _ st fu h s hs bs l (one_at _ _ _) hm h1 h2 h4).mono ?_
  rintro e w' ⟨rfl, hF, hG⟩
  have e1 : ifz fu (one s.data.toList bs l) (upd (one s.data.toList bs l) s.data.toList (some (bs, bs.length))) = one s.data.toList bs (syncL fu l bs.length) := by
    rw [upd_one]
    unfold ifz syncL
    split <;> rfl
  rw [e1] at hF
  exact ⟨rfl, hF, hG⟩

/-- block p is a log at disk f whose file is s -/
def LogAt (w : World) (base p f : Nat) (s : ByteArray) (rs : List (List UInt8)) : Prop :=
  base ≤ p ∧ ∃ lv, w.heap[p]? = some (.cells #[.pointer (some ⟨f, 0, none⟩), .string s, lv] 61 (0, 0)) ∧ ORecs w base lv rs
theorem LogAt.fr {S : Nat → Prop} {w w' : World} {base p f : Nat} {s : ByteArray} {rs : List (List UInt8)} (h : LogAt w base p f s rs) (hf : Fr S w w') (hp : ¬ S p) (hs : ∀ g, S g → ¬ Tag w g 5 ∧ ¬ Tag w g 52) : LogAt w' base p f s rs := by
  obtain ⟨h1, lv, h3, h4⟩ := h
  exact ⟨h1, lv, hf.obj h3 hp, h4.fr hf hs⟩
theorem LogAt.below {w w' : World} {base p f : Nat} {s : ByteArray} {rs : List (List UInt8)} (h : LogAt w base p f s rs) (hb : Below w.heap.size w w') : LogAt w' base p f s rs :=
  h.fr (Fr.of_below (S := fun _ => False) hb) id (fun _ h => h.elim)
theorem LogAt.tag {w : World} {base p f : Nat} {s : ByteArray} {rs : List (List UInt8)} (h : LogAt w base p f s rs) : Tag w p 61 := by
  obtain ⟨h1, lv, h3, h4⟩ := h
  exact ⟨_, _, h3⟩
/-- the blocks of a disk are none of a log's -/
theorem files_apart {w : World} {f b m : Nat} {C : Disk} {st fu : Int} {dead : Bool} (h : Files w f b m C st fu dead) (t : TypeId) (ht : t ≠ 55) : ∀ g, (g = f ∨ g = b) → ¬ Tag w g t := by
  rintro g (rfl | rfl)
  · exact fun hh => tag_ne (w := w) h.tag hh (fun e => ht e.symm) rfl
  · exact h.not_tag t
theorem LogAt.disk {w w' : World} {base p f b m : Nat} {s : ByteArray} {rs : List (List UInt8)} {C : Disk} {st fu : Int} {dead : Bool} {f' : Nat} (h : LogAt w base p f' s rs) (hF : Files w f b m C st fu dead) (hf : Fr (fun k => k = f ∨ k = b) w w') : LogAt w' base p f' s rs :=
  h.fr hf (fun hh => files_apart hF 61 (by decide) p hh h.tag) (fun g hg => ⟨files_apart hF _ (by decide) g hg, files_apart hF _ (by decide) g hg⟩)

set_option maxRecDepth 100000 in
set_option maxHeartbeats 1000000 in
theorem create_any (w : World) (f b m : Nat) (h : Files w f b m (fun _ => none) 0 (-1) false) (s : ByteArray) (k : List UInt8) (hk : s.data.toList = k) (hn : named k = true) (hm : m ≤ 1000) :
    Calls Tryz.prog 8 #[.pointer (some ⟨f, 0, none⟩), .string s] w fun e w' => ∃ p, e = .returned (.tuple #[.pointer (some ⟨p, 0, none⟩), .int .i64 0]) ∧ LogAt w' w.heap.size p f s [] ∧ Files w' f b (m + 2) (one k [] 0) 2 (-1) false ∧ Fr (fun k => k = f ∨ k = b) w w' := by
  have hs := (size_of_named hk hn).2
  have HF := Lib.hid h
  clear h
  go_enter Tryz.func8, Tryz.ntmps8
  go_wp2_with fail
  refine (read_any w f b m _ 0 (-1) false HF.out s hs (by simp [cb])).mono ?_
  rintro e w1 ⟨v1, rfl, h1, hb1⟩
  obtain ⟨a1, k1, rfl, -, -⟩ := h1.reads.shape
  have HF1 := Lib.hid (HF.out.below hb1)
  have HB1 := Lib.hid hb1
  clear h1 hb1
  go_wp2_with fail
  refine (app0 w1 f b m 0 HF1.out s k hk hn _ [] (Reads.nil _ _) (by simp) (by omega) (by omega) (by omega)).mono ?_
  rintro e w2 ⟨rfl, h2, f2⟩
  have HF2 := Lib.hid h2
  have G2 := Lib.hid ((Fr.of_below (S := fun k => k = f ∨ k = b) HB1.out).trans f2 (fun _ _ h => h))
  clear h2 f2
  go_wp2_with fail
  refine (syn1 w2 f b _ _ k [] 0 HF2.out s hk hn (by omega) (by omega) (by omega)).mono ?_
  rintro e w3 ⟨rfl, h3, f3⟩
  have HF3 := Lib.hid h3
  have G3 := Lib.hid (G2.out.trans f3 (fun _ _ h => h))
  clear h3 f3
  go_wp2_with fail
  go_ret2
  have A : Below w3.heap.size w3 (w3.alloc (.cells #[.pointer (some ⟨f, 0, none⟩), .string s, .slice none 0 0] 61)) := (Below.refl _ _).alloc (Nat.le_refl _) _
  exact ⟨_, rfl, ⟨G3.out.size, _, heap_alloc_new w3 _, ORecs.nil _ _⟩, HF3.out.below A, G3.out.trans (Fr.of_below (S := fun _ => False) A) (fun _ _ h => h.elim)⟩

set_option maxRecDepth 100000 in
set_option maxHeartbeats 1000000 in
theorem logapp_nil (w : World) (base p f : Nat) (s : ByteArray) (rs : List (List UInt8)) (h : LogAt w base p f s rs) (x : Option Addr) (cap : Nat) :
    Calls Tryz.prog 12 #[.pointer (some ⟨p, 0, none⟩), .slice x 0 cap] w fun e w' => e = .returned (.int .i64 0) ∧ w' = w := by
  obtain ⟨-, lv, z, -⟩ := h
  have c0 := cell_at z 0
  simp at c0
  clear z
  go_enter Tryz.func12, Tryz.ntmps12
  go_wp2_with fail
  go_ret
  exact ⟨rfl, rfl⟩
end Go.Proofs.YtpnlcogbahjnoaaGreat.F
