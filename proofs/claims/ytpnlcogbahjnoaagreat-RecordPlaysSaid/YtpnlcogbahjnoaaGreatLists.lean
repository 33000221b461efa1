/- Lists of records as arguments; chapter 13's Room and same. Conditions stand at each theorem. -/
import Derived.Test.YtpnlcogbahjnoaaGreatAwake13
import Derived.Test.YtpnlcogbahjnoaaGreatFArg
namespace Go.Proofs.YtpnlcogbahjnoaaGreat.F
open Go.RowKit Go.Proofs.YtpnlcogbahjnoaaGreat.M Go.ChangeShapes Go.WideShapes Go.Deep
set_option linter.unusedVariables false

/-- v is a slice of slices of slices of bytes -/
def LLs (w : World) (v : Value) (ls : List (List (List UInt8))) : Prop := ∃ vs, Reads w 1 v ls.length vs ∧ vs.length = ls.length ∧ ∀ (i : Nat) (l : List (List UInt8)), ls[i]? = some l → ∃ u, vs[i]? = some u ∧ Recs w u l
theorem LLs.shape {w : World} {v : Value} {ls : List (List (List UInt8))} (h : LLs w v ls) : ∃ a cap, v = .slice a ls.length cap ∧ ls.length ≤ cap ∧ cap ≤ 9223372036854775807 := by
  obtain ⟨vs, h, _⟩ := h
  exact h.shape
theorem info26 : (Tryz.prog.info? 39).map (fun i => (i.zero, i.size, i.bytes)) = some (some (.slice none 0 0), 1, 24) := by kernel_rfl
theorem lls_ix {w : World} {v : Value} {ls : List (List (List UInt8))} (h : LLs w v ls) (j : Nat) (hj : j < ls.length) :
    ∃ g o u, (∀ (k : IntKind) (w' : World), (Instr.indexAt 22 v (.int k j)).run Tryz.prog w' = .ok (.pointer (some ⟨g, o, none⟩)) w') ∧ w.cell? ⟨g, o, none⟩ = some u ∧ Recs w u ls[j] := by
  obtain ⟨vs, h1, h2, h3⟩ := h
  obtain ⟨i, hi, hz0, hz1, hz2⟩ := info_parts info26
  obtain ⟨u, hu, hb⟩ := h3 j ls[j] (by simp [hj])
  obtain ⟨g, o, q1, q2, q3⟩ := index_reads 22 39 Tryz.underlying22 i hi w hz1 v _ _ h1 j u hu
  exact ⟨g, o, u, q1, q2, hb⟩

theorem collect {α : Type} {w : World} {p : Addr} (P : Value → α → Prop) (len : Nat) (h : ∀ i, i < len → ∃ u a, p.spot = none ∧ w.cell? ⟨p.block, p.off + i, none⟩ = some u ∧ P u a) :
    ∃ (vs : List Value) (xs : List α), vs.length = len ∧ xs.length = len ∧ (∀ (j : Nat) (u : Value), vs[j]? = some u → p.spot = none ∧ w.cell? ⟨p.block, p.off + j, none⟩ = some u) ∧ ∀ (i : Nat) (a : α), xs[i]? = some a → ∃ u, vs[i]? = some u ∧ P u a := by
  induction len with
  | zero => exact ⟨[], [], rfl, rfl, fun j u hj => by simp at hj, fun i a hi => by simp at hi⟩
  | succ n ih =>
    obtain ⟨vs, xs, h1, h2, h3, h4⟩ := ih (fun i hi => h i (by omega))
    obtain ⟨u, a, g1, g2, g3⟩ := h n (by omega)
    refine ⟨vs ++ [u], xs ++ [a], by simp [h1], by simp [h2], fun j x hj => ?_, fun i x hi => ?_⟩
    · rw [List.getElem?_append, h1] at hj
      split at hj
      · exact h3 j x hj
      · rename_i hh
        have : j = n := by
          have := (List.getElem?_eq_some_iff.1 hj).1
          simp at this
          omega
        subst this
        simp at hj
        subst hj
        exact ⟨g1, g2⟩
    · rw [List.getElem?_append, h2] at hi
      rw [List.getElem?_append, h1]
      split at hi
      · rw [if_pos (by assumption)]; exact h4 i x hi
      · rename_i hh
        rw [if_neg hh]
        have : i = n := by
          have := (List.getElem?_eq_some_iff.1 hi).1
          simp at this
          omega
        subst this
        simp at hi
        subst hi
        exact ⟨u, by simp, g3⟩

section
variable {H : Type} {enc : TypeId × Value → H} {W : World}
set_option maxRecDepth 100000 in
theorem recs_of_trod {fuel : Nat} {v : Value} {x : DataW H × List MemPlace} (h : DataW.trod enc Tryz.prog W 0 (fun _ => true) true fuel 39 [v] = some x) : ∃ rs, Recs W v rs := by
  rcases open_slice Tryz.underlying39 h with ⟨hcs, _⟩ | ⟨p, l, c, m, n, D, Pl, hcs, _, hl, hm, hmm, _, hel⟩
  · simp at hcs
    subst hcs
    exact ⟨[], Recs.nil W⟩
  · simp at hcs
    subst hcs
    simp only [if_true] at hmm
    have hC : Tryz.prog.cellsOf 52 = 1 := by kernel_rfl
    obtain ⟨vs, rs, h1, h2, h3, h4⟩ := collect (w := W) (p := p) (fun u (r : List UInt8) => Bytes W u r) l (fun i hi => by
      obtain ⟨cs, h1, h2⟩ := hel i (by omega)
      rw [hC] at h1
      obtain ⟨_, hcl, hat⟩ := World.cells?_some h1
      match cs, hcl with
      | [c0], _ =>
        obtain ⟨bs, hb⟩ := bytes_of_trod Tryz.underlying52 Tryz.underlying5 (by kernel_rfl) h2
        have g0 := hat 0 (by omega)
        have hsp : p.spot = none := by
          obtain ⟨cs0, h10, _⟩ := hel 0 (by omega)
          rw [hC] at h10
          obtain ⟨_, hcl0, hat0⟩ := World.cells?_some h10
          match cs0, hcl0 with
          | [d0], _ =>
            have := World.cell?_spot ((hat0 0 (by omega)).trans rfl)
            simpa [Addr.add] using this
        rw [add_none p _ hsp, add_none _ _ rfl] at g0
        exact ⟨c0, bs, hsp, by simpa using g0, hb⟩)
    exact ⟨rs, vs, ⟨by simp [h1, h2], .inr ⟨p, c, by rw [h2], by omega, hm, h3⟩⟩, by omega, h4⟩
set_option maxRecDepth 100000 in
theorem lls_arg {base : Nat} {v : Value} {d : DataW H} {ps : List MemPlace} (hok : Value.okWide Tryz.prog W .any base 22 v) (h : DataW.Trod enc Tryz.prog W 0 (fun _ => true) true 22 v d ps) : ∃ ls, LLs W v ls := by
  obtain ⟨a, len, cap, rfl⟩ := okWide_slice Tryz.underlying22 hok
  obtain ⟨fuel, hf⟩ := h
  rcases open_slice Tryz.underlying22 hf with ⟨hcs, _⟩ | ⟨p, l, c, m, n, D, Pl, hcs, _, hl, hm, hmm, _, hel⟩
  · simp [Value.cells] at hcs
    obtain ⟨rfl, rfl, rfl⟩ := hcs
    exact ⟨[], [], Reads.nil W 1, rfl, fun i l h => by simp at h⟩
  · simp [Value.cells] at hcs
    obtain ⟨rfl, rfl, rfl⟩ := hcs
    simp only [if_true] at hmm
    have hC : Tryz.prog.cellsOf 39 = 1 := by kernel_rfl
    obtain ⟨vs, rs, h1, h2, h3, h4⟩ := collect (w := W) (p := p) (fun u (r : List (List UInt8)) => Recs W u r) len (fun i hi => by
      obtain ⟨cs, h1, h2⟩ := hel i (by omega)
      rw [hC] at h1
      obtain ⟨_, hcl, hat⟩ := World.cells?_some h1
      match cs, hcl with
      | [c0], _ =>
        obtain ⟨bs, hb⟩ := recs_of_trod h2
        have g0 := hat 0 (by omega)
        have hsp : p.spot = none := by
          obtain ⟨cs0, h10, _⟩ := hel 0 (by omega)
          rw [hC] at h10
          obtain ⟨_, hcl0, hat0⟩ := World.cells?_some h10
          match cs0, hcl0 with
          | [d0], _ =>
            have := World.cell?_spot ((hat0 0 (by omega)).trans rfl)
            simpa [Addr.add] using this
        rw [add_none p _ hsp, add_none _ _ rfl] at g0
        exact ⟨c0, bs, hsp, by simpa using g0, hb⟩)
    exact ⟨rs, vs, ⟨by simp [h1, h2], .inr ⟨p, cap, by rw [h2], by omega, hm, h3⟩⟩, by omega, h4⟩
set_option maxRecDepth 100000 in
theorem recs_arg {base : Nat} {v : Value} {d : DataW H} {ps : List MemPlace} (hok : Value.okWide Tryz.prog W .any base 39 v) (h : DataW.Trod enc Tryz.prog W 0 (fun _ => true) true 39 v d ps) : ∃ rs, Recs W v rs := by
  obtain ⟨a, len, cap, rfl⟩ := okWide_slice Tryz.underlying39 hok
  obtain ⟨fuel, hf⟩ := h
  exact recs_of_trod (x := (d, ps)) (by simpa [Value.cells] using hf)
end

def RoomO (ls : List (List (List UInt8))) (e : Ending) : Prop := ∃ r : Bool, e = .returned (.bool r) ∧ (r = true → ls.length ≤ 100 ∧ ∀ l ∈ ls, Small l)
theorem RoomO.no (ls : List (List (List UInt8))) : RoomO ls (.returned (.bool false)) := ⟨false, rfl, fun h => by cases h⟩
set_option maxRecDepth 100000 in
set_option maxHeartbeats 1000000 in
theorem roomR_any (w : World) (v : Value) (ls : List (List (List UInt8))) (h : LLs w v ls) :
    Calls Tryz.prog 5 #[v] w fun e w' => RoomO ls e ∧ w' = w := by
  obtain ⟨a, cap, rfl, hc, hm⟩ := h.shape
  have HL := Lib.hid h
  clear h
  by_cases hbig : 100 < ls.length
  · go_enter Tryz.func5, Tryz.ntmps5
    go_wp2_with fail
    go_ret
    exact ⟨RoomO.no _, rfl⟩
  go_enter Tryz.func5, Tryz.ntmps5
  go_wp2_with fail
  go_loopg [3] ls.length (fun k s3 wr => ∃ i : Nat, i ≤ ls.length ∧ k + i = ls.length ∧ s3 = .int .i64 i ∧ wr = w ∧ Hid (∀ j (hj : j < ls.length), j < i → Small ls[j]))
  case atStart => exact ⟨0, by omega, by omega, rfl, rfl, Lib.hid (fun j _ h => by omega)⟩
  case round =>
    obtain ⟨i, hi, hk, rfl, rfl, hsm⟩ := hrel
    by_cases hlt : i < ls.length
    · obtain ⟨g, o, u, hix, hcell, hru⟩ := lls_ix HL.out i hlt
      obtain ⟨ua, ucap, hue, hu1, hu2⟩ := hru.shape
      generalize hli : ls[i] = l at *
      subst hue
      have HRU := Lib.hid hru
      clear hru
      by_cases h50 : 50 < l.length
      · go_wp2_with fail
        go_ret
        exact ⟨RoomO.no _, rfl⟩
      go_wp2_with fail
      go_loopg [4] l.length (fun k s4 wr' => ∃ t : Nat, t ≤ l.length ∧ k + t = l.length ∧ s4 = .int .i64 t ∧ wr' = wr ∧ Hid (∀ q (hq : q < l.length), q < t → l[q].length ≤ 200))
      case atStart => exact ⟨0, by omega, by omega, rfl, rfl, Lib.hid (fun q _ h => by omega)⟩
      case round =>
        obtain ⟨t, ht, hkt, rfl, rfl, hsq⟩ := hrel
        by_cases htl : t < l.length
        · obtain ⟨g2, o2, u2, hix2, hcell2, hbu, -⟩ := recs_ix HRU.out t htl
          obtain ⟨va, vcap, hve, hv1, hv2⟩ := hbu.shape
          generalize hlt' : l[t] = r at *
          subst hve
          clear hbu
          by_cases h200 : 200 < r.length
          · go_wp2_with fail
            go_ret
            exact ⟨RoomO.no _, rfl⟩
          · go_wp2_with fail
            go_roundg (l.length - (t + 1))
            case measure => omega
            case rel =>
              refine ⟨t + 1, by omega, by omega, by simp, rfl, Lib.hid (fun q hq hqt => ?_)⟩
              by_cases hqt' : q < t
              · exact hsq.out q hq hqt'
              · have : q = t := by omega
                subst this
                rw [hlt']
                omega
        · have htl' : t = l.length := by omega
          subst htl'
          go_wp2_with fail
          go_roundg (ls.length - (i + 1))
          case measure => omega
          case rel =>
            refine ⟨i + 1, by omega, by omega, by simp, rfl, Lib.hid (fun j hj hji => ?_)⟩
            by_cases hji' : j < i
            · exact hsm.out j hj hji'
            · have : j = i := by omega
              subst this
              rw [hli]
              refine ⟨by omega, fun r hr => ?_⟩
              obtain ⟨q, hq, rfl⟩ := List.getElem_of_mem hr
              exact hsq.out q hq hq
    · have hin : i = ls.length := by omega
      subst hin
      go_wp2_with fail
      go_ret
      refine ⟨⟨true, rfl, fun _ => ⟨by omega, fun l hl => ?_⟩⟩, rfl⟩
      obtain ⟨j, hj, rfl⟩ := List.getElem_of_mem hl
      exact hsm.out j hj hj

theorem q_same (w : World) (x y : Value) (bs cs : List UInt8) (hx : Bytes w x bs) (hy : Bytes w y cs) (n : Nat) :
    Calls Tryz.prog 36 #[x, y] (w.drewN n) fun e w' => e = .returned (.bool (decide (bs = cs))) ∧ ∃ m, w' = w.drewN m :=
  (same_any (w.drewN n) x y bs cs (Reads.below hx (below_drewN (Below.refl _ w) n)) (Reads.below hy (below_drewN (Below.refl _ w) n))).mono fun _ _ ⟨h1, m, h2⟩ => ⟨h1, n + m, by rw [h2, World.drewN_drewN]⟩
set_option maxRecDepth 100000 in
set_option maxHeartbeats 1000000 in
theorem sameR_any (w : World) (x y : Value) (xs ys : List (List UInt8)) (hx : Recs w x xs) (hy : Recs w y ys) :
    Calls Tryz.prog 14 #[x, y] w fun e w' => e = .returned (.bool (decide (xs = ys))) ∧ ∃ n, w' = w.drewN n := by
  obtain ⟨xa, xcap, rfl, hx1, hx2⟩ := hx.shape
  obtain ⟨ya, ycap, rfl, hy1, hy2⟩ := hy.shape
  have HX := Lib.hid hx
  have HY := Lib.hid hy
  clear hx hy
  by_cases hl : xs.length = ys.length
  · go_enter Tryz.func14, Tryz.ntmps14
    rw [← hl]
    have HLE := Lib.hid hl
    rw [← hl] at hy1
    clear hl
    go_wp2_with fail
    go_loopg [5] xs.length (fun k i wr => ∃ j : Nat, j ≤ xs.length ∧ k + j = xs.length ∧ i = .int .i64 j ∧ Hid (xs.take j = ys.take j) ∧ Hid (∃ n, wr = w.drewN n))
    case atStart => exact ⟨0, by omega, by omega, rfl, Lib.hid (by simp), Lib.hid ⟨0, rfl⟩⟩
    case round =>
      obtain ⟨j, hj, hk, rfl, ht, hw⟩ := hrel
      have HB : Hid (Below w.heap.size w wr) := Lib.hid (by obtain ⟨n, rfl⟩ := hw.out; exact below_drewN (Below.refl _ _) _)
      by_cases hlt : j < xs.length
      · have hlty : j < ys.length := HLE.out ▸ hlt
        obtain ⟨g, o, u, hix, hcell, hbu, -⟩ := recs_ix (HX.out.old HB.out (Nat.le_refl _)) j hlt
        obtain ⟨g2, o2, u2, hix2, hcell2, hbu2, -⟩ := recs_ix (HY.out.old HB.out (Nat.le_refl _)) j hlty
        rw [← HLE.out] at hix2
        have HLY := Lib.hid hlty
        have HU := Lib.hid hbu
        have HU2 := Lib.hid hbu2
        obtain ⟨va, vcap, hve, -, -⟩ := hbu.shape
        obtain ⟨va2, vcap2, hve2, -, -⟩ := hbu2.shape
        clear hbu hbu2
        generalize hxr : xs[j] = r at *
        generalize hyr : ys[j] = r2 at *
        have HXR := Lib.hid hxr
        have HYR := Lib.hid hyr
        clear hxr hyr
        subst hve hve2
        go_upto_region 6 with fail
        go_quiet ((first | (go_at_call 36; exact q_same wr _ _ r r2 HU.out HU2.out _)))
        generalize hd : decide (r = r2) = d at *
        cases d with
        | true =>
          have he : r = r2 := of_decide_eq_true hd
          go_wp2_with fail
          go_roundg (xs.length - (j + 1))
          case measure => omega
          case rel =>
            refine ⟨j + 1, by omega, by omega, by simp, Lib.hid ?_, Lib.hid (by obtain ⟨n, rfl⟩ := hw.out; exact ⟨_, World.drewN_drewN _ _ _⟩)⟩
            rw [List.take_succ_eq_append_getElem hlt, List.take_succ_eq_append_getElem HLY.out, ht.out, HXR.out]
            exact congrArg (fun z => ys.take j ++ [z]) (he.trans HYR.out.symm)
        | false =>
          have he : ¬ r = r2 := of_decide_eq_false hd
          go_wp2_with fail
          go_ret
          refine ⟨?_, by obtain ⟨n, rfl⟩ := hw.out; exact ⟨_, World.drewN_drewN _ _ _⟩⟩
          have : xs ≠ ys := by
            intro e
            have h1 := HXR.out
            have h2 := HYR.out
            subst e
            exact he (h1.symm.trans h2)
          simp [this]
      · have hjn : j = xs.length := by omega
        subst hjn
        go_wp2_with fail
        go_ret
        refine ⟨?_, hw.out⟩
        have h1 := ht.out
        rw [List.take_length, List.take_of_length_le (Nat.le_of_eq HLE.out.symm)] at h1
        simp [h1]
  · have hd : decide (xs = ys) = false := decide_eq_false (by rintro rfl; exact hl rfl)
    rw [hd]
    clear hd
    go_enter Tryz.func14, Tryz.ntmps14
    go_wp2_with fail
    go_ret
    exact ⟨rfl, 0, rfl⟩
end Go.Proofs.YtpnlcogbahjnoaaGreat.F
