/- The reference's list: the records of a body. Conditions stand at each theorem. -/
import Derived.Test.YtpnlcogbahjnoaaGreatQRead
namespace Go.Proofs.YtpnlcogbahjnoaaGreat.F
open Go.RowKit Go.Proofs.YtpnlcogbahjnoaaGreat.M
set_option linter.unusedVariables false

def QListSt (wr : World) (base p : Nat) (bs : List UInt8) (n j : Nat) (v : Value) : Prop :=
  (∃ rs l, ORecs wr base v rs ∧ QRdAt wr p l 0 ∧ listM bs = (recsM (n - j) l).map (rs ++ ·) ∧ rs.length + l.length ≤ bs.length) ∨ (∃ c l, c ≠ 0 ∧ (∃ a m k, v = .slice a m k) ∧ QRdAt wr p l c ∧ listM bs = none)
theorem qlist_start {w2 : World} {base p : Nat} {e : Ending} {bs : List UInt8} (h : QNumOut w2 p e (dec bs)) :
    ∃ n : Nat, e = .returned (.int .i64 n) ∧ n ≤ 1099511627776 ∧ QListSt w2 base p bs n 0 (.slice none 0 0) := by
  cases hd : dec bs with
  | error c =>
    rw [hd] at h
    exact ⟨0, h.1, by omega, .inr ⟨c, [], dec_err hd, ⟨_, _, _, rfl⟩, h.2, by rw [listM, hd]⟩⟩
  | ok x =>
    obtain ⟨n, l⟩ := x
    rw [hd] at h
    have hk := dec_ok hd
    exact ⟨n, h.1, hk.2, .inl ⟨[], l, ORecs.nil _ _, h.2, by rw [listM, hd]; simp, by simp; omega⟩⟩

set_option maxRecDepth 100000 in
set_option maxHeartbeats 1000000 in
theorem qlist_any (w : World) (v : Value) (bs : List UInt8) (hv : OB w v bs) (hl : bs.length ≤ 1073741824) :
    Calls Tryz.prog 71 #[v] w fun e w' => ListOut w' w.heap.size e (listM bs) ∧ Below w.heap.size w w' := by
  obtain ⟨i, hi, hz0, hz1, hz2⟩ := info_parts info23
  obtain ⟨a, cap, rfl, hc, hm⟩ := hv.1.shape
  have HV := Lib.hid hv
  have Hi := Lib.hid hi
  have Hz0 := Lib.hid hz0
  have Hz1 := Lib.hid hz1
  have Hz2 := Lib.hid hz2
  clear hv hi hz0 hz1 hz2
  go_enter Tryz.func71, Tryz.ntmps71
  go_wp2_with fail
  have A : Below w.heap.size w (w.alloc (.cells #[.slice a bs.length cap, .int .i64 0] 126)) := (Below.refl _ _).alloc (Nat.le_refl _) _
  have hr1 : QRdAt (w.alloc (.cells #[.slice a bs.length cap, .int .i64 0] 126)) w.heap.size bs 0 := ⟨_, heap_alloc_new w _, HV.out.below A⟩
  have HR1 := Lib.hid hr1
  have HA := Lib.hid A
  clear hr1 A
  refine (qnum_any _ w.heap.size bs HR1.out).mono ?_
  rintro e w2 ⟨hn, hf2⟩
  obtain ⟨n, rfl, hn40, hst0⟩ := qlist_start (base := w.heap.size) hn
  have HS0 := Lib.hid hst0
  have HB2 := Lib.hid (HA.out.trans (hf2.below HA.out.size (by rintro k rfl; exact Nat.le_refl _)))
  clear hn hf2 hst0
  go_wp2_with fail
  go_loopg [6, 7] n (fun k s6 s7 wr => ∃ j : Nat, j ≤ n ∧ k + j = n ∧ s7 = .int .i64 j ∧ Hid (QListSt wr w.heap.size w.heap.size bs n j s6) ∧ Hid (Below w.heap.size w wr))
  case atStart => exact ⟨0, by omega, by omega, rfl, HS0, HB2⟩
  case round =>
    obtain ⟨j, hj, hk, rfl, hst, hbw⟩ := hrel
    rcases hst.out with ⟨rs, l0, hv0, hr0, hlm, hlen⟩ | ⟨c, l0, hcz, ⟨a5, m5, k5, rfl⟩, hr0, hlm⟩
    · obtain ⟨a5, k5, rfl, hk5, hm5⟩ := hv0.shape
      have HV0 := Lib.hid hv0
      have HR0 := Lib.hid hr0
      have hfl := hr0.fail
      by_cases hlt : j < n
      · have HLM := Lib.hid hlm
        clear hv0 hr0 hlm hst
        have hnj : n - j = (n - (j + 1)) + 1 := by omega
        go_wp2_with fail
        refine (qbytes_any wr w.heap.size l0 HR0.out (by omega) 1048576 (by omega)).mono ?_
        rintro e w3 ⟨hbo, hf3⟩
        have nt : ∀ g, g = w.heap.size → ¬ Tag wr g 5 ∧ ¬ Tag wr g 52 := by
          rintro g rfl
          obtain ⟨sv, z, -⟩ := HR0.out
          exact ⟨Tag.not z (by decide), Tag.not z (by decide)⟩
        have hv3 := HV0.out.fr hf3 nt
        have ht3 := fun g hg => (hv3.tag (g := g) hg).1
        obtain ⟨vs, hv3, hov3⟩ := hv3
        have HV3 := Lib.hid hv3
        have HB3 := Lib.hid (hbw.out.trans (hf3.below hbw.out.size (by rintro k rfl; exact Nat.le_refl _)))
        have HT3 := Lib.hid ht3
        have nt4 : ∀ g, (Value.slice a5 rs.length k5).ownBlock = some g → ¬ Tag w3 g 5 := by intro g hg; obtain ⟨cur, fz, z⟩ := HT3.out g hg; exact Tag.not z (by decide)
        have NT4 := Lib.hid nt4
        cases hB : decB 1048576 l0 with
        | error c =>
          rw [hB] at hbo
          obtain ⟨rfl, hr3⟩ := hbo
          have hcz := decB_err hB
          have HN : Hid (listM bs = none) := Lib.hid (by rw [HLM.out, hnj, recsM, hB]; rfl)
          have HR3 := Lib.hid hr3
          clear hv3 hr3 hf3 nt hov3 ht3 hB nt4 hfl
          go_wp2_with (at_builtin; refine wpList_append_owns rfl _ _ 39 rfl w.heap.size 52 i (.slice none 0 0) 1 24 Tryz.underlying39 Hi.out Hz0.out Hz1.out Hz2.out rfl (.slice a5 rs.length k5) rs.length vs rfl (Owns.fr HV3.out ((Fr.refl (fun _ => False) _).alloc _) (fun _ _ => id)) _ 1 [.slice none 0 0] rfl (Reads.one (heap_alloc_new w3 _)) (by simp [Value.oneCell']) (rs.length + 1) rfl (vs ++ [.slice none 0 0]) rfl (by omega) (by omega) (Nat.le_trans HB3.out.size (by simp)) ?_; intro q k w4 y1 y2 y3 y4 y5; have Y1 := Lib.hid y1; have Y4 := Lib.hid y4; clear y1 y4 y5)
          have F4 : Fr (fun k => (Value.slice a5 rs.length k5).ownBlock = some k) w3 w4 := Fr.trans (S := fun k => (Value.slice a5 rs.length k5).ownBlock = some k) ((Fr.refl _ w3).alloc _) (Fr.of_grown (S := fun k => (Value.slice a5 rs.length k5).ownBlock = some k) Y4.out (fun k hk _ => hk)) (fun _ _ h => h)
          have HB4 := Lib.hid (HB3.out.trans (F4.below HB3.out.size (fun k hk => (HV3.out.base_le k hk).1)))
          have hr4 := HR3.out.fr F4 (by intro hh; obtain ⟨sv, z, -⟩ := HR3.out; exact Tag.not z (by decide) (HT3.out _ hh)) NT4.out
          go_roundg (n - (j + 1))
          case measure => omega
          case rel => exact ⟨j + 1, by omega, by omega, by simp, Lib.hid (.inr ⟨c, _, hcz, ⟨_, _, _, rfl⟩, hr4, HN.out⟩), HB4⟩
        | ok x =>
          obtain ⟨r, l'⟩ := x
          rw [hB] at hbo
          obtain ⟨u3, rfl, hu3, hr3⟩ := hbo
          obtain ⟨a3, k3, rfl, -, -⟩ := hu3.1.shape
          have hrl := decB_ok hB
          have HN : Hid (listM bs = (recsM (n - (j + 1)) l').map ((rs ++ [r]) ++ ·)) := Lib.hid (by
            rw [HLM.out, hnj, recsM, hB, Option.map_map]
            congr 1
            funext z
            simp)
          have HOV3 := Lib.hid (hov3.append (OVals.one hu3))
          have HR3 := Lib.hid hr3
          clear hv3 hr3 hf3 nt hov3 ht3 hu3 hB nt4 hfl
          go_wp2_with (at_builtin; refine wpList_append_owns rfl _ _ 39 rfl w.heap.size 52 i (.slice none 0 0) 1 24 Tryz.underlying39 Hi.out Hz0.out Hz1.out Hz2.out rfl (.slice a5 rs.length k5) rs.length vs rfl (Owns.fr HV3.out ((Fr.refl (fun _ => False) _).alloc _) (fun _ _ => id)) _ 1 [.slice a3 r.length k3] rfl (Reads.one (heap_alloc_new w3 _)) (by simp [Value.oneCell']) (rs.length + 1) rfl (vs ++ [.slice a3 r.length k3]) rfl (by omega) (by omega) (Nat.le_trans HB3.out.size (by simp)) ?_; intro q k w4 y1 y2 y3 y4 y5; have Y1 := Lib.hid y1; have Y4 := Lib.hid y4; clear y1 y4 y5)
          have F4 : Fr (fun k => (Value.slice a5 rs.length k5).ownBlock = some k) w3 w4 := Fr.trans (S := fun k => (Value.slice a5 rs.length k5).ownBlock = some k) ((Fr.refl _ w3).alloc _) (Fr.of_grown (S := fun k => (Value.slice a5 rs.length k5).ownBlock = some k) Y4.out (fun k hk _ => hk)) (fun _ _ h => h)
          have HB4 := Lib.hid (HB3.out.trans (F4.below HB3.out.size (fun k hk => (HV3.out.base_le k hk).1)))
          have hr4 := HR3.out.fr F4 (by intro hh; obtain ⟨sv, z, -⟩ := HR3.out; exact Tag.not z (by decide) (HT3.out _ hh)) NT4.out
          have ho4 : ORecs w4 w.heap.size (.slice q (rs.length + 1) k) (rs ++ [r]) := ⟨_, by rw [List.length_append]; exact Y1.out, HOV3.out.fr F4 NT4.out⟩
          have HO4 := Lib.hid ho4
          clear ho4
          go_roundg (n - (j + 1))
          case measure => omega
          case rel => exact ⟨j + 1, by omega, by omega, by simp, Lib.hid (.inl ⟨_, _, HO4.out, hr4, HN.out, by simp; omega⟩), HB4⟩
      · have hjn : n - j = 0 := by omega
        rw [hjn, recsM] at hlm
        by_cases hl0 : l0 = []
        · rw [if_pos hl0] at hlm
          have HLM : Hid (listM bs = some rs) := Lib.hid (by rw [hlm]; simp)
          have HE := Lib.hid (qend_any wr w.heap.size l0 0 HR0.out)
          rw [hl0] at HE
          clear hv0 hr0 hlm hst
          go_wp2_with fail
          refine HE.out.mono ?_
          rintro e w' ⟨rfl, rfl⟩
          go_wp2_with fail
          go_ret2
          exact ⟨list_out HLM.out ⟨_, rfl, HV0.out⟩, hbw.out⟩
        · rw [if_neg hl0] at hlm
          have HLM : Hid (listM bs = none) := Lib.hid (by rw [hlm]; rfl)
          have hpos : 0 < l0.length := List.length_pos_iff.2 hl0
          have HE := qend_any wr w.heap.size l0 0 HR0.out
          rw [if_neg (by simp), if_pos hpos] at HE
          have HE := Lib.hid HE
          clear hv0 hr0 hlm hst
          go_wp2_with fail
          refine HE.out.mono ?_
          rintro e w' ⟨rfl, rfl⟩
          go_wp2_with fail
          go_ret2
          exact ⟨list_out HLM.out ⟨_, _, _, rfl⟩, hbw.out⟩
    · have hfl := hr0.fail
      have hcb : (c == 0) = false := by simpa using hcz
      have HE := qend_any wr w.heap.size l0 c hr0
      rw [if_pos hcz] at HE
      have HE := Lib.hid HE
      have HLM := Lib.hid hlm
      clear hr0 hlm hst
      by_cases hlt : j < n
      · go_wp2_with fail
        refine HE.out.mono ?_
        rintro e w' ⟨rfl, rfl⟩
        go_wp2_with fail
        go_ret2
        exact ⟨list_out HLM.out ⟨_, _, _, rfl⟩, hbw.out⟩
      · go_wp2_with fail
        refine HE.out.mono ?_
        rintro e w' ⟨rfl, rfl⟩
        go_wp2_with fail
        go_ret2
        exact ⟨list_out HLM.out ⟨_, _, _, rfl⟩, hbw.out⟩
end Go.Proofs.YtpnlcogbahjnoaaGreat.F
