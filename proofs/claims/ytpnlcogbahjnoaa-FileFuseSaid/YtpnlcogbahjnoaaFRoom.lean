/- room: are chapter 12's deeds few and small? walked. Conditions stand at each theorem. -/
import Derived.Test.YtpnlcogbahjnoaaFDeeds
namespace Go.Proofs.Ytpnlcogbahjnoaa.F
open Go.RowKit Go.Proofs.Ytpnlcogbahjnoaa.M
set_option linter.unusedVariables false

/-- deed i of l is x -/
def FAtI (w : World) (l : Value) (i : Nat) (x : FDeed) : Prop := ∃ g o, (∀ (q : IntKind) (w' : World), (Instr.indexAt 59 l (.int q i)).run Try.prog w' = .ok (.pointer (some ⟨g, o, none⟩)) w') ∧
    x.ok w ∧ g < w.heap.size ∧ ∀ j u, x.cells[j]? = some u → w.cell? ⟨g, o + j, none⟩ = some u
def FDeed.small (x : FDeed) : Prop := x.bs.length ≤ 500 ∧ x.name.size ≤ 200 ∧ x.nto.size ≤ 200

theorem six_cells {w : World} {g o : Nat} {x : FDeed} (h : ∀ j u, x.cells[j]? = some u → w.cell? ⟨g, o + j, none⟩ = some u) :
    w.cell? ⟨g, o, none⟩ = some (.int .i64 x.d) ∧ w.cell? ⟨g, o + 1, none⟩ = some (.int .i64 x.n) ∧ w.cell? ⟨g, o + 2, none⟩ = some (.string x.name) ∧ w.cell? ⟨g, o + 3, none⟩ = some (.string x.nto) ∧ w.cell? ⟨g, o + 4, none⟩ = some x.bv ∧ w.cell? ⟨g, o + 5, none⟩ = some x.nv :=
  ⟨h 0 _ rfl, h 1 _ rfl, h 2 _ rfl, h 3 _ rfl, h 4 _ rfl, h 5 _ rfl⟩

def RoomOut (W : World) (l : Value) (n : Nat) (e : Ending) : Prop := ∃ r : Bool, e = .returned (.bool r) ∧ (r = true → n ≤ 200 ∧ ∀ i, i < n → ∃ x, FAtI W l i x ∧ x.small)
theorem RoomOut.no (W : World) (l : Value) (n : Nat) : RoomOut W l n (.returned (.bool false)) := ⟨false, rfl, fun h => by cases h⟩
set_option maxRecDepth 100000 in
set_option maxHeartbeats 2000000 in
theorem room_any (W w : World) (hw : Below W.heap.size W w) (l : Value) (n : Nat) (hl : FDeeds W l n) :
    Calls Try.prog 37 #[l] w fun e w' => RoomOut W l n e ∧ w' = w := by
  obtain ⟨la, lcap, rfl, hlc, hlm⟩ := hl.shape
  have HL := Lib.hid hl
  clear hl
  by_cases hbig : 200 < n
  · go_enter Try.func37, Try.ntmps37
    go_wp2_with fail
    go_ret
    exact ⟨RoomOut.no _ _ _, rfl⟩
  go_enter Try.func37, Try.ntmps37
  go_wp2_with fail
  go_loopg [3] n (fun k i wr => ∃ j : Nat, j ≤ n ∧ k + j = n ∧ i = .int .i64 j ∧ wr = w ∧ Hid (∀ i, i < j → ∃ x, FAtI W (.slice la n lcap) i x ∧ x.small))
  case atStart => exact ⟨0, by omega, by omega, rfl, rfl, Lib.hid (fun i hi => by omega)⟩
  case round =>
    obtain ⟨j, hj, hk, rfl, rfl, hsm⟩ := hrel
    by_cases hlt : j < n
    · obtain ⟨g, o, x, hix, hok, hg, hcell⟩ := HL.out.at j hlt
      have hat : FAtI W (.slice la n lcap) j x := ⟨g, o, hix, hok, hg, hcell⟩
      obtain ⟨hbv, hnv, hns, hto, -, -⟩ := hok
      obtain ⟨c0, c1, c2, c3, c4, c5⟩ := six_cells hcell
      obtain ⟨hcc, hff⟩ := bcell hw
      have e2 := (hcc g (o + 2) hg).trans c2
      have e3 := (hcc g (o + 3) hg).trans c3
      have e4 := (hcc g (o + 4) hg).trans c4
      have e5 := (hcc g (o + 5) hg).trans c5
      obtain ⟨xd, xn, xname, xto, xbv, xbs, xnv, xns⟩ := x
      obtain ⟨va, vcap, hve, hv1, hv2⟩ := hbv.shape
      obtain ⟨na, ncap, hne, hn1, hn2⟩ := hnv.shape
      simp only at hve hne e2 e3 e4 e5 hns hto
      subst hve
      subst hne
      have HAT := Lib.hid hat
      have hns' : xname.size ≤ 9223372036854775807 := by simp only [maxLen] at hns; omega
      have hto' : xto.size ≤ 9223372036854775807 := by simp only [maxLen] at hto; omega
      clear hcc hff c0 c1 c2 c3 c4 c5 hcell hbv hnv hat hns hto
      by_cases b4 : 500 < xbs.length
      · go_wp2_with fail
        go_ret
        exact ⟨RoomOut.no _ _ _, rfl⟩
      by_cases b5 : 100 < xns.length
      · go_wp2_with fail
        go_ret
        exact ⟨RoomOut.no _ _ _, rfl⟩
      by_cases b2 : 200 < xname.size
      · go_wp2_with fail
        go_ret
        exact ⟨RoomOut.no _ _ _, rfl⟩
      by_cases b3 : 200 < xto.size
      · go_wp2_with fail
        go_ret
        exact ⟨RoomOut.no _ _ _, rfl⟩
      go_wp2_with fail
      go_roundg (n - (j + 1))
      case measure => omega
      case rel =>
        refine ⟨j + 1, by omega, by omega, by simp, rfl, Lib.hid (fun i hi => ?_)⟩
        by_cases hij : i < j
        · exact hsm.out i hij
        · have : i = j := by omega
          subst this
          exact ⟨_, HAT.out, by simp only; omega, by simp only; omega, by simp only; omega⟩
    · have hjn : j = n := by omega
      subst hjn
      go_wp2_with fail
      go_ret
      exact ⟨⟨true, rfl, fun _ => ⟨by omega, hsm.out⟩⟩, rfl⟩
end Go.Proofs.Ytpnlcogbahjnoaa.F
