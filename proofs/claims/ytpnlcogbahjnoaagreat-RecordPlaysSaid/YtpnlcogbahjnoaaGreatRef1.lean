/- The reference's Same and Copy. Conditions stand at each theorem. -/
import Derived.Test.YtpnlcogbahjnoaaGreatMore
namespace Go.Proofs.YtpnlcogbahjnoaaGreat.F
open Go.RowKit Go.Proofs.YtpnlcogbahjnoaaGreat.M
set_option linter.unusedVariables false

theorem infoU8 : (Tryz.prog.info? 5).map (fun i => (i.zero, i.size, i.bytes)) = some (some (.int .u8 0), 1, 1) := by kernel_rfl
theorem u8_ne {a b : UInt8} (h : a ≠ b) : ((a.toNat : Int) == (b.toNat : Int)) = false := by
  rw [beq_eq_false_iff_ne]
  intro e
  exact h (UInt8.toNat_inj.1 (by omega))

set_option maxRecDepth 100000 in
set_option maxHeartbeats 2000000 in
theorem same_any (w : World) (x y : Value) (bs cs : List UInt8) (hx : Bytes w x bs) (hy : Bytes w y cs) :
    Calls Tryz.prog 36 #[x, y] w fun e w' => e = .returned (.bool (decide (bs = cs))) ∧ ∃ n, w' = w.drewN n := by
  obtain ⟨i, hi, hz0, hz1, hz2⟩ := info_parts infoU8
  obtain ⟨xa, xc, rfl, hx1, hx2⟩ := hx.shape
  obtain ⟨ya, yc, rfl, hy1, hy2⟩ := hy.shape
  have HX := Lib.hid hx
  have HY := Lib.hid hy
  have Hi := Lib.hid hi
  have Hz1 := Lib.hid hz1
  clear hx hy hi hz0 hz1 hz2
  by_cases hl : bs.length = cs.length
  · rw [← hl] at hy1 HY ⊢
    have HLN := Lib.hid hl
    clear hl
    go_enter Tryz.func36, Tryz.ntmps36
    go_wp2_with fail
    go_loopg [5] bs.length (fun k i wr => ∃ j : Nat, j ≤ bs.length ∧ k + j = bs.length ∧ i = .int .i64 j ∧ bs.take j = cs.take j ∧ ∃ n, wr = w.drewN n)
    case atStart => exact ⟨0, by omega, by omega, rfl, by simp, 0, rfl⟩
    case round =>
      obtain ⟨j, hj, hk, rfl, ht, n, rfl⟩ := hrel
      have HT := Lib.hid ht
      clear ht
      by_cases hlt : j < bs.length
      · have hltc : j < cs.length := HLN.out ▸ hlt
        obtain ⟨g, o, hix, hc, _⟩ := index_reads 52 5 Tryz.underlying52 i Hi.out w Hz1.out _ _ _ HX.out j (M.u8 bs[j]) (by simp [hlt])
        have hc0 : w.cell? ⟨g, o, none⟩ = some (.int .u8 bs[j].toNat) := hc
        have HLC := Lib.hid hltc
        clear hc
        by_cases he : bs[j] = cs[j]
        · obtain ⟨g', o', hix', hc', _⟩ := index_reads 52 5 Tryz.underlying52 i Hi.out w Hz1.out _ _ _ HY.out j (M.u8 bs[j]) (by rw [he]; simp [hltc]; rfl)
          have hc0' : w.cell? ⟨g', o', none⟩ = some (.int .u8 bs[j].toNat) := hc'
          clear hc'
          have HE := Lib.hid he
          clear he
          go_wp2_with fail
          go_quiet (fail)
          go_wp2_with fail
          go_roundg (bs.length - (j + 1))
          case measure => omega
          case rel =>
            refine ⟨j + 1, by omega, by omega, by simp, ?_, _, rfl⟩
            rw [List.take_succ_eq_append_getElem hlt, List.take_succ_eq_append_getElem HLC.out, HT.out, HE.out]
            rfl
        · obtain ⟨g', o', hix', hc', _⟩ := index_reads 52 5 Tryz.underlying52 i Hi.out w Hz1.out _ _ _ HY.out j (M.u8 cs[j]) (by simp [hltc]; rfl)
          have hc0' : w.cell? ⟨g', o', none⟩ = some (.int .u8 cs[j].toNat) := hc'
          clear hc'
          have hne := u8_ne he
          have hne' : ¬ ((bs[j].toNat : Int) = (cs[j].toNat : Int)) := by
            intro e; rw [beq_eq_false_iff_ne] at hne; exact hne e
          have HNE := Lib.hid he
          clear he
          go_wp2_with fail
          go_quiet (fail)
          go_wp2_with fail
          go_ret
          refine ⟨?_, _, World.drewN_drewN _ _ _⟩
          have : bs ≠ cs := by
            intro e
            subst e
            exact HNE.out rfl
          simp [this]
      · have hjn : j = bs.length := by omega
        subst hjn
        go_wp2_with fail
        go_ret
        refine ⟨?_, _, rfl⟩
        have := HT.out
        rw [List.take_length, List.take_of_length_le (Nat.le_of_eq HLN.out.symm)] at this
        simp [this]
  · have hd : decide (bs = cs) = false := decide_eq_false (by rintro rfl; exact hl rfl)
    rw [hd]
    clear hd
    go_enter Tryz.func36, Tryz.ntmps36
    go_wp2_with fail
    go_ret
    exact ⟨rfl, 0, rfl⟩

set_option maxRecDepth 100000 in
set_option maxHeartbeats 2000000 in
theorem copy_any (w : World) (x : Value) (bs : List UInt8) (hx : Bytes w x bs) (hlen : bs.length ≤ 1099511627776) :
    Calls Tryz.prog 35 #[x] w fun e w' => ∃ v, e = .returned v ∧ Owns w' w.heap.size 5 1 v bs.length (bs.map M.u8) ∧ Below w.heap.size w w' := by
  obtain ⟨i, hi, hz0, hz1, hz2⟩ := info_parts infoU8
  obtain ⟨xa, xc, rfl, hx1, hx2⟩ := hx.shape
  have HX := Lib.hid hx
  have Hi := Lib.hid hi
  have Hz0 := Lib.hid hz0
  have Hz1 := Lib.hid hz1
  have Hz2 := Lib.hid hz2
  clear hx hi hz0 hz1 hz2
  go_enter Tryz.func35, Tryz.ntmps35
  go_wp2_with fail
  go_loopg [4, 3] bs.length (fun k i v wr => ∃ j : Nat, j ≤ bs.length ∧ k + j = bs.length ∧ i = .int .i64 j ∧ Owns wr w.heap.size 5 1 v j ((bs.take j).map M.u8) ∧ Below w.heap.size w wr)
  case atStart => exact ⟨0, by omega, by omega, rfl, by simpa using Owns.nil _ _ _ _, Below.refl _ _⟩
  case round =>
    obtain ⟨j, hj, hk, rfl, ho, hb⟩ := hrel
    have HB := Lib.hid hb
    by_cases hlt : j < bs.length
    · obtain ⟨g, o, hix, hc, _⟩ := index_reads 52 5 Tryz.underlying52 i Hi.out w Hz1.out _ _ _ HX.out j (M.u8 bs[j]) (by simp [hlt])
      have hc0 : wr.cell? ⟨g, o, none⟩ = some (.int .u8 bs[j].toNat) := ((bcell hb).1 g o (World.block_lt_of_cell? w _ hc)).trans hc
      obtain ⟨a9, k9, rfl, hk9, hm9⟩ := ho.reads.shape
      have HO := Lib.hid ho
      clear hc hb ho
      go_wp2_with (at_builtin; refine wpList_append_owns rfl _ _ 52 rfl w.heap.size 5 i (.int .u8 0) 1 1 Tryz.underlying52 Hi.out Hz0.out Hz1.out Hz2.out rfl (.slice a9 j k9) j _ rfl (Owns.fr HO.out ((Fr.refl (fun _ => False) _).alloc _) (fun _ _ => id)) _ 1 [.int .u8 bs[j].toNat] rfl (Reads.one (heap_alloc_new wr _)) (by simp [Value.oneCell']) (j + 1) rfl _ rfl ?hc (by omega) ?hd ?_; (case hc => omega); (case hd => exact Nat.le_trans HB.out.size (by simp)); intro q k w' h1 h2 h3 h4 h5; have H1 := Lib.hid h1; have H4 := Lib.hid h4; clear h1 h4 h5)
      all_goals
        go_roundg (bs.length - (j + 1))
        case measure => omega
        case rel =>
          refine ⟨j + 1, by omega, by omega, by simp, ?_, ?_⟩
          · have := H1.out
            rw [List.take_succ_eq_append_getElem hlt, List.map_append]
            exact this
          · have F : Fr (fun k => w.heap.size ≤ k) wr w' := Fr.trans (S' := fun k => w.heap.size ≤ k) ((Fr.refl _ wr).alloc _) (Fr.of_grown H4.out (fun k hk _ => (HO.out.base_le k hk).1)) (fun _ _ h => h)
            exact HB.out.trans (F.below HB.out.size (fun _ h => h))
    · have hjn : j = bs.length := by omega
      subst hjn
      have HO := Lib.hid ho
      clear ho hb
      go_wp2_with fail
      go_ret
      have := HO.out
      rw [List.take_length] at this
      exact ⟨_, rfl, this, HB.out⟩
end Go.Proofs.YtpnlcogbahjnoaaGreat.F
