/- record.Scan: the records of frames. Conditions stand at each theorem. -/
import Derived.Test.YtpnlcogbahjnoaaGreatList
import Derived.WalkMore
namespace Go.Proofs.YtpnlcogbahjnoaaGreat.F
open Go.RowKit Go.Proofs.YtpnlcogbahjnoaaGreat.M
set_option linter.unusedVariables false

/-- the records of the frames that some bytes begin with, and how many bytes these have -/
def scan (b : List UInt8) : Option (List (List UInt8) × Nat) :=
  if h : b = [] then some ([], 0) else
    match unf b with
    | .no c => if c = 2 then some ([], 0) else none
    | .ok n => match listM ((b.drop 8).take n) with
      | none => none
      | some rs => (scan (b.drop (n + 12))).map fun x => (rs ++ x.1, n + 12 + x.2)
termination_by b.length
decreasing_by
  have := List.length_pos_iff.2 h
  simp only [List.length_drop]
  omega
theorem scan_nil : scan [] = some ([], 0) := by rw [scan]; rfl
theorem scan_no {b : List UInt8} (h : b ≠ []) {c : Int} (hu : unf b = .no c) : scan b = if c = 2 then some ([], 0) else none := by
  rw [scan, dif_neg h, hu]
theorem scan_bad {b : List UInt8} (h : b ≠ []) {n : Nat} (hu : unf b = .ok n) (hl : listM ((b.drop 8).take n) = none) : scan b = none := by
  rw [scan, dif_neg h, hu]
  simp only [hl]
theorem scan_ok {b : List UInt8} (h : b ≠ []) {n : Nat} {rs : List (List UInt8)} (hu : unf b = .ok n) (hl : listM ((b.drop 8).take n) = some rs) : scan b = (scan (b.drop (n + 12))).map fun x => (rs ++ x.1, n + 12 + x.2) := by
  rw [scan, dif_neg h, hu]
  simp only [hl]
theorem unf_ok {b : List UInt8} {n : Nat} (h : unf b = .ok n) : n + 12 ≤ b.length ∧ n ≤ 1048576 := by
  unfold unf at h
  split at h
  · cases h
  · split at h
    · cases h
    · split at h
      · cases h
      · split at h
        · cases h
        · split at h
          · cases h
          · cases h; omega
theorem recsM_len {n : Nat} {l : List UInt8} {rs : List (List UInt8)} (h : recsM n l = some rs) : rs.length ≤ l.length := by
  induction n generalizing l rs with
  | zero =>
    rw [recsM] at h
    split at h
    · cases h; simp
    · cases h
  | succ n ih =>
    rw [recsM] at h
    cases hB : decB 1048576 l with
    | error c => rw [hB] at h; cases h
    | ok x =>
      obtain ⟨r, l'⟩ := x
      rw [hB] at h
      have hl := decB_ok hB
      simp only [Option.map_eq_some_iff] at h
      obtain ⟨rs', h1, rfl⟩ := h
      have := ih h1
      simp
      omega
theorem listM_len {bs : List UInt8} {rs : List (List UInt8)} (h : listM bs = some rs) : rs.length ≤ bs.length := by
  unfold listM at h
  cases hd : dec bs with
  | error c => rw [hd] at h; cases h
  | ok x =>
    obtain ⟨n, l⟩ := x
    rw [hd] at h
    have h1 := recsM_len h
    have h2 := dec_ok hd
    omega

theorem unf_no {b : List UInt8} {c : Int} (h : unf b = .no c) : c ≠ 0 := by
  unfold unf at h
  split at h
  · cases h; decide
  · split at h
    · cases h; decide
    · split at h
      · cases h; decide
      · split at h
        · cases h; decide
        · split at h
          · cases h; decide
          · cases h

def ScanOut (w' : World) (base : Nat) (e : Ending) : Option (List (List UInt8) × Nat) → Prop
  | some (rs, n) => ∃ v, e = .returned (.tuple #[v, .int .i64 n, .int .i64 0]) ∧ ORecs w' base v rs
  | none => e = .returned (.tuple #[.slice none 0 0, .int .i64 0, .int .i64 10])
theorem scan_out {w' : World} {base : Nat} {e : Ending} {b : List UInt8} {X : Option (List (List UInt8) × Nat)} (h : scan b = X) (h' : ScanOut w' base e X) : ScanOut w' base e (scan b) := h ▸ h'

set_option maxRecDepth 100000 in
set_option maxHeartbeats 1000000 in
theorem scan_any (w : World) (v : Value) (b : List UInt8) (hv : Bytes w v b) (hl : b.length ≤ 1073741824) :
    Calls Tryz.prog 38 #[v] w fun e w' => ScanOut w' w.heap.size e (scan b) ∧ Below w.heap.size w w' := by
  obtain ⟨i, hi, hz0, hz1, hz2⟩ := info_parts info23
  obtain ⟨a, cap, rfl, hc, hm⟩ := hv.shape
  have HV := Lib.hid hv
  have Hi := Lib.hid hi
  have Hz0 := Lib.hid hz0
  have Hz1 := Lib.hid hz1
  have Hz2 := Lib.hid hz2
  clear hv hi hz0 hz1 hz2
  go_enter Tryz.func38, Tryz.ntmps38
  go_wp2_with fail
  go_step3
  go_wp2_with fail
  go_step3
  go_wp2_with fail
  go_loopg [5, 6] b.length (fun k s5 s6 wr => ∃ (at_ : Nat) (rs : List (List UInt8)), at_ ≤ b.length ∧ k + at_ = b.length ∧ s6 = .int .i64 at_ ∧ rs.length ≤ at_ ∧ Hid (ORecs wr w.heap.size s5 rs) ∧ Hid (scan b = (scan (b.drop at_)).map fun x => (rs ++ x.1, at_ + x.2)) ∧ Hid (Below w.heap.size w wr))
  case atStart => exact ⟨0, [], by omega, by omega, rfl, by simp, Lib.hid (ORecs.nil _ _), Lib.hid (by simp), Lib.hid (Below.refl _ _)⟩
  case round =>
    obtain ⟨at_, rs, hat, hk, rfl, hrl, hov, hsc, hbw⟩ := hrel
    obtain ⟨a5, k5, rfl, hk5, hm5⟩ := hov.out.shape
    by_cases hlt : at_ < b.length
    · have hne : ¬ cap = at_ := by omega
      have hbt := bytes_add HV.out at_ (b.length - at_) (by omega)
      rw [List.take_of_length_le (by simp)] at hbt
      have HBT := Lib.hid (Reads.old hbt hbw.out (Nat.le_refl _))
      have hnil : b.drop at_ ≠ [] := by intro hh; have := congrArg List.length hh; simp at this; omega
      have HNIL := Lib.hid hnil
      have hbdl : (b.drop at_).length ≤ b.length := by simp
      clear hbt hnil
      go_wp2_with fail
      refine (unframe_any wr _ (b.drop at_) HBT.out (by omega)).mono ?_
      rintro e w1 ⟨hu, hb1⟩
      have HB1 := Lib.hid (hbw.out.trans (hb1.mono hbw.out.size))
      have HO1 := Lib.hid (hov.out.below hb1)
      cases huf : unf (b.drop at_) with
      | no c =>
        rw [huf] at hu
        obtain rfl := hu
        by_cases hc2 : c = 2
        · subst hc2
          have HS : Hid (scan b = some (rs, at_)) := Lib.hid (by rw [hsc.out, scan_no HNIL.out huf]; simp)
          clear hb1 huf
          go_wp2_with fail
          rw [Exit.noGoto_ret]
          go_ret3
          exact ⟨scan_out HS.out ⟨_, rfl, HO1.out⟩, HB1.out⟩
        · have HS : Hid (scan b = none) := Lib.hid (by rw [hsc.out, scan_no HNIL.out huf, if_neg hc2]; rfl)
          clear hb1
          have hc0 := unf_no huf
          clear huf
          have hb0 : (c == 0) = false := by simpa using hc0
          have hb2 : (c == 2) = false := by simpa using hc2
          go_wp2_with fail
          rw [Exit.noGoto_ret]
          go_ret3
          exact ⟨scan_out HS.out rfl, HB1.out⟩
      | ok n =>
        rw [huf] at hu
        obtain ⟨v1, rfl, ho1⟩ := hu
        have hun := unf_ok huf
        go_wp2_with fail
        obtain ⟨a1, k1, rfl, -, -⟩ := ho1.reads.shape
        have hlen1 : (((b.drop at_).drop 8).take n).length = n := by simp at hun ⊢; omega
        have HBY : Hid (Bytes w1 (.slice a1 n k1) (((b.drop at_).drop 8).take n)) := Lib.hid (Bytes.of_owns ho1)
        clear ho1 hb1
        refine (list_any w1 _ _ HBY.out (by omega)).mono ?_
        rintro e w2 ⟨hlo, hb2⟩
        have HB2 := Lib.hid (HB1.out.trans (hb2.mono HB1.out.size))
        have HO2 := Lib.hid (HO1.out.below hb2)
        cases hli : listM (((b.drop at_).drop 8).take n) with
        | none =>
          rw [hli] at hlo
          obtain ⟨q1, q2, q3, rfl⟩ := hlo
          have HS : Hid (scan b = none) := Lib.hid (by rw [hsc.out, scan_bad HNIL.out huf hli]; rfl)
          clear hb2
          go_wp2_with fail
          rw [Exit.noGoto_ret]
          go_ret3
          exact ⟨scan_out HS.out rfl, HB2.out⟩
        | some rs' =>
          rw [hli] at hlo
          obtain ⟨v2, rfl, ho2⟩ := hlo
          obtain ⟨a2, k2, rfl, -, -⟩ := ho2.shape
          have hrl' := listM_len hli
          rw [hlen1] at hrl'
          have HS : Hid (scan b = (scan (b.drop (at_ + (n + 12)))).map fun x => ((rs ++ rs') ++ x.1, at_ + (n + 12) + x.2)) := Lib.hid (by
            rw [hsc.out, scan_ok HNIL.out huf hli, Option.map_map, List.drop_drop]
            congr 1
            funext z
            simp
            omega)
          have hun' : n + 12 ≤ b.length - at_ := by simpa using hun.1
          have hw12 : IntKind.i64.wrap ((at_ : Int) + (n + 12)) = at_ + (n + 12) := IntWalk.i64_in _ (by omega)
          obtain ⟨vs, hv2, hov2⟩ := HO2.out
          obtain ⟨us, hu2, hou2⟩ := ho2
          have ht2 : ∀ g, (Value.slice a5 rs.length k5).ownBlock = some g → Tag w2 g 52 ∧ w.heap.size ≤ g := fun g hg => ORecs.tag (rs := rs) ⟨vs, hv2, hov2⟩ hg
          have HT2 := Lib.hid ht2
          have HV2 := Lib.hid hv2
          have HOV := Lib.hid (hov2.append hou2)
          have HUR := Lib.hid hu2.reads
          have HUL : Hid (∀ u ∈ us, u.oneCell' = true) := Lib.hid (by
            intro u hu
            obtain ⟨q, hq, hqe⟩ := List.getElem_of_mem hu
            have hq' : q < rs'.length := by rw [← hou2.1]; exact hq
            obtain ⟨u', h1, h2⟩ := hou2.2 q rs'[q] (by simp [hq'])
            rw [List.getElem?_eq_getElem hq, Option.some.injEq] at h1
            rw [hqe] at h1
            subst h1
            obtain ⟨y1, y2, rfl, -, -⟩ := h2.1.shape
            rfl)
          clear hv2 hov2 hu2 hou2 ht2 hb2 huf hli
          go_wp2_with (at_builtin; refine wpList_append_owns rfl _ _ 39 rfl w.heap.size 52 i (.slice none 0 0) 1 24 Tryz.underlying39 Hi.out Hz0.out Hz1.out Hz2.out rfl (.slice a5 rs.length k5) rs.length vs rfl HV2.out _ rs'.length us rfl HUR.out HUL.out (rs.length + rs'.length) rfl (vs ++ us) rfl (by omega) (by omega) HB2.out.size ?_; intro q k w4 y1 y2 y3 y4 y5; have Y1 := Lib.hid y1; have Y4 := Lib.hid y4; clear y1 y4 y5)
          have F4 : Fr (fun k => (Value.slice a5 rs.length k5).ownBlock = some k) w2 w4 := Fr.of_grown (S := fun k => (Value.slice a5 rs.length k5).ownBlock = some k) Y4.out (fun k hk _ => hk)
          have nt4 : ∀ g, (Value.slice a5 rs.length k5).ownBlock = some g → ¬ Tag w2 g 5 := by intro g hg; obtain ⟨⟨cur, fz, z⟩, -⟩ := HT2.out g hg; exact Tag.not z (by decide)
          have HB4 := Lib.hid (HB2.out.trans (F4.below HB2.out.size (fun k hk => (HT2.out k hk).2)))
          have ho4 : ORecs w4 w.heap.size (.slice q (rs.length + rs'.length) k) (rs ++ rs') := ⟨_, by rw [List.length_append]; exact Y1.out, HOV.out.fr F4 nt4⟩
          go_roundg (b.length - (at_ + (n + 12)))
          case measure => omega
          case rel => exact ⟨at_ + (n + 12), rs ++ rs', by omega, by omega, congrArg (Value.int .i64) (by omega), by simp; omega, Lib.hid ho4, HS, HB4⟩
    · have hjn : at_ = b.length := by omega
      have HS : Hid (scan b = some (rs, b.length)) := Lib.hid (by rw [hsc.out, hjn, List.drop_of_length_le (Nat.le_refl _), scan_nil]; simp)
      subst hjn
      go_wp2_with fail
      rw [Exit.noGoto_ret]
      go_ret3
      exact ⟨scan_out HS.out ⟨_, rfl, hov.out⟩, hbw.out⟩
end Go.Proofs.YtpnlcogbahjnoaaGreat.F
