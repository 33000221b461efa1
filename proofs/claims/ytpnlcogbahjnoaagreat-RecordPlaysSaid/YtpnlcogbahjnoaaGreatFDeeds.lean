/- What a list of chapter 12's deeds reads as. Conditions stand at each lemma. -/
import Derived.Test.YtpnlcogbahjnoaaGreatArgs
import Derived.Deep.Slices
import Derived.Deep.Fields
namespace Go.Proofs.YtpnlcogbahjnoaaGreat.F
open Go.RowKit Go.Proofs.YtpnlcogbahjnoaaGreat.M Go.ChangeShapes Go.WideShapes Go.Deep
set_option linter.unusedVariables false

theorem add_none (p : Addr) (j : Nat) (h : p.spot = none) : p.add j = ⟨p.block, p.off + j, none⟩ := by
  obtain ⟨b, o, sp⟩ := p
  simp only at h
  subst h
  unfold Addr.add
  split <;> simp_all
/-- what one deed holds -/
structure FDeed where
  d : Int
  n : Int
  name : ByteArray
  nto : ByteArray
  bv : Value
  bs : List UInt8
  nv : Value
  ns : List Int
def FDeed.ok (w : World) (x : FDeed) : Prop := Bytes w x.bv x.bs ∧ Reads w 1 x.nv x.ns.length (x.ns.map (.int .i64)) ∧ x.name.size ≤ maxLen ∧ x.nto.size ≤ maxLen ∧
  (-9223372036854775808 ≤ x.d ∧ x.d ≤ 9223372036854775807) ∧ (-9223372036854775808 ≤ x.n ∧ x.n ≤ 9223372036854775807)
def FDeed.cells (x : FDeed) : List Value := [.int .i64 x.d, .int .i64 x.n, .string x.name, .string x.nto, x.bv, x.nv]
/-- l is a slice of deeds -/
def FDeeds (w : World) (l : Value) (n : Nat) : Prop := (l = .slice none 0 0 ∧ n = 0) ∨
  ∃ p cap, l = .slice (some p) n cap ∧ n ≤ cap ∧ cap ≤ maxLen ∧ ∀ i, i < n → p.spot = none ∧ ∃ x : FDeed, x.ok w ∧ ∀ j u, x.cells[j]? = some u → w.cell? ⟨p.block, p.off + i * 6 + j, none⟩ = some u
theorem FDeeds.shape {w : World} {l : Value} {n : Nat} (h : FDeeds w l n) : ∃ a cap, l = .slice a n cap ∧ n ≤ cap ∧ cap ≤ 9223372036854775807 := by
  rcases h with ⟨rfl, rfl⟩ | ⟨p, cap, rfl, hn, hm, _⟩
  · exact ⟨none, 0, rfl, Nat.le_refl _, by omega⟩
  · exact ⟨some p, cap, rfl, hn, by simp only [maxLen] at hm; omega⟩

end Go.Proofs.YtpnlcogbahjnoaaGreat.F
