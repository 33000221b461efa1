/- record.Open, (*Log).All, Len; chapter 13's same. Conditions stand at each theorem. -/
import Derived.Test.YtpnlcogbahjnoaaGreatLogApp
namespace Go.Proofs.YtpnlcogbahjnoaaGreat.F
open Go.RowKit Go.Proofs.YtpnlcogbahjnoaaGreat.M
set_option linter.unusedVariables false

set_option maxRecDepth 100000 in
set_option maxHeartbeats 1000000 in
theorem len_any (w : World) (base p f : Nat) (s : ByteArray) (rs : List (List UInt8)) (h : LogAt w base p f s rs) :
    Calls Tryz.prog 16 #[.pointer (some ⟨p, 0, none⟩)] w fun e w' => e = .returned (.int .i64 rs.length) ∧ w' = w := by
  obtain ⟨-, lv, z, ho⟩ := h
  obtain ⟨a, cap, rfl, -, -⟩ := ho.shape
  have c2 := cell_at z 2
  simp at c2
  clear z ho
  go_enter Tryz.func16, Tryz.ntmps16
  go_wp2_with fail
  go_ret
  exact ⟨rfl, rfl⟩

set_option maxRecDepth 100000 in
set_option maxHeartbeats 1000000 in
theorem all_any (w : World) (base p f : Nat) (s : ByteArray) (rs : List (List UInt8)) (h : LogAt w base p f s rs) (hlen : rs.length ≤ 1073741824) (hlens : ∀ (i : Nat) (r : List UInt8), rs[i]? = some r → r.length ≤ 1099511627776) :
    Calls Tryz.prog 15 #[.pointer (some ⟨p, 0, none⟩)] w fun e w' => ∃ v, e = .returned v ∧ ORecs w' w.heap.size v rs ∧ Below w.heap.size w w' := by
  obtain ⟨i, hi, hz0, hz1, hz2⟩ := info_parts info23
  obtain ⟨-, lv, z, ho⟩ := h
  obtain ⟨a, cap, rfl, hc, hm⟩ := ho.shape
  have c2 := cell_at z 2
  simp at c2
  have HR := Lib.hid ho.recs
  have Hi := Lib.hid hi
  have Hz0 := Lib.hid hz0
  have Hz1 := Lib.hid hz1
  have Hz2 := Lib.hid hz2
  clear z ho hi hz0 hz1 hz2
  go_enter Tryz.func15, Tryz.ntmps15
  go_wp2_with fail
  go_loopg [3, 13] rs.length (fun k s3 s13 wr => ∃ j : Nat, j ≤ rs.length ∧ k + j = rs.length ∧ s13 = .int .i64 j ∧ Hid (ORecs wr w.heap.size s3 (rs.take j)) ∧ Hid (Below w.heap.size w wr))
  case atStart => exact ⟨0, by omega, by omega, rfl, Lib.hid (by simpa using ORecs.nil _ _), Lib.hid (Below.refl _ _)⟩
  case round =>
    obtain ⟨j, hj, hk, rfl, hov, hbw⟩ := hrel
    by_cases hlt : j < rs.length
    · obtain ⟨g, o, u, hix, hcell, hub, -⟩ := recs_ix (HR.out.old hbw.out (Nat.le_refl _)) j hlt
      obtain ⟨ua, ucap, hue, hu1, hu2⟩ := hub.shape
      subst hue
      have hrl : rs[j].length ≤ 1099511627776 := hlens j rs[j] (by simp [hlt])
      have HU := Lib.hid hub
      obtain ⟨a3, k3, hv3, hk3, hm3⟩ := hov.out.shape
      have hle : (rs.take j).length = j := by simp; omega
      rw [hle] at hv3 hk3
      subst hv3
      obtain ⟨vs, hvs, hovs⟩ := hov.out
      rw [hle] at hvs
      have HVS := Lib.hid hvs
      have HOV := Lib.hid hovs
      have HTG : Hid (∀ g, (Value.slice a3 j k3).ownBlock = some g → Tag wr g 52 ∧ w.heap.size ≤ g) := Lib.hid (fun g hg => ORecs.tag hov.out hg)
      have hnx : rs.take (j + 1) = rs.take j ++ [rs[j]] := List.take_succ_eq_append_getElem hlt
      clear hub hvs hovs hle
      generalize hrj : rs[j] = r at *
      have HNX := Lib.hid hnx
      clear hnx
      go_wp2_with fail
      refine (clone_any wr _ r HU.out hrl).mono ?_
      rintro e w5 ⟨v5, rfl, ho5, hb5⟩
      obtain ⟨a5, k5, rfl, hk51, hk52⟩ := ho5.reads.shape
      have HO5 := Lib.hid ho5
      have HB5 := Lib.hid hb5
      clear ho5 hb5
      go_wp2_with (at_builtin; refine wpList_append_owns rfl _ _ 39 rfl w.heap.size 52 i (.slice none 0 0) 1 24 Tryz.underlying39 Hi.out Hz0.out Hz1.out Hz2.out rfl (.slice a3 j k3) j vs rfl (HVS.out.fr (Fr.alloc (Fr.of_below (S := fun _ => False) HB5.out) _) (fun _ _ => id)) _ 1 [.slice a5 r.length k5] rfl (Reads.one (heap_alloc_new w5 _)) (by simp [Value.oneCell']) (j + 1) rfl (vs ++ [.slice a5 r.length k5]) rfl (by omega) (by omega) (Nat.le_trans hbw.out.size (Nat.le_trans HB5.out.size (by simp))) ?_; intro q kq w6 t1 t2 t3 t4 t5; have T1 := Lib.hid t1; have T4 := Lib.hid t4; clear t1 t4 t5)
      have F5 : Fr (fun k => (Value.slice a3 j k3).ownBlock = some k) wr w6 := Fr.trans (S := fun k => (Value.slice a3 j k3).ownBlock = some k) (Fr.alloc (Fr.of_below HB5.out) _) (Fr.of_grown (S := fun k => (Value.slice a3 j k3).ownBlock = some k) T4.out (fun k hk _ => hk)) (fun _ _ h => h)
      have o6 : OB w6 (.slice a5 r.length k5) r := (HO5.out.ob.below ((Below.refl _ _).alloc (Nat.le_refl _) _)).fr (Fr.of_grown (S := fun k => (Value.slice a3 j k3).ownBlock = some k) T4.out (fun k hk _ => hk)) (fun g hg hh => by
        obtain ⟨cur, fz, hz⟩ := (HTG.out g hg).1
        have hz5 := ((Below.refl w5.heap.size w5).alloc (Nat.le_refl _) (.cells #[.slice a5 r.length k5] 52)).block g (Nat.lt_of_lt_of_le (lt_of_obj hz) HB5.out.size) |>.trans ((HB5.out.block g (lt_of_obj hz)).trans hz)
        exact Tag.not hz5 (by decide) hh)
      have hov6 := (HOV.out.fr F5 (fun g hg => by obtain ⟨cur, fz, hz⟩ := (HTG.out g hg).1; exact Tag.not hz (by decide))).append (OVals.one o6)
      have or6 : ORecs w6 w.heap.size (.slice q (j + 1) kq) (rs.take (j + 1)) := by
        rw [HNX.out]
        exact ⟨vs ++ [.slice a5 r.length k5], by rw [show (rs.take j ++ [r]).length = j + 1 by simp; omega]; exact T1.out, hov6⟩
      have OR6 := Lib.hid or6
      have B6 := Lib.hid (hbw.out.trans (F5.below hbw.out.size (fun k hk => (HTG.out k hk).2)))
      clear F5 o6 hov6 or6
      go_roundg (rs.length - (j + 1))
      case measure => omega
      case rel => exact ⟨j + 1, by omega, by omega, by simp, OR6, B6⟩
    · have hjn : j = rs.length := by omega
      rw [hjn, List.take_length] at hov
      go_wp2_with fail
      go_ret
      exact ⟨_, rfl, hov.out, hbw.out⟩

theorem holds_le' {w : World} {f b m : Nat} {k bs : List UInt8} {l : Nat} {st fu : Int} {dead : Bool} (h : Files w f b m (one k bs l) st fu dead) : l ≤ bs.length := by
  obtain ⟨D, _, hH⟩ := h.map
  exact ((hH k).2 bs l (one_at _ _ _)).2.1
theorem trunc_f (w : World) (f b m : Nat) (st : Int) (k bs : List UInt8) (l : Nat) (h : Files w f b m (one k bs l) st (-1) false) (s : ByteArray) (hk : s.data.toList = k) (hn : named k = true) (n : Nat) (hnl : n ≤ bs.length) (hb : bs.length ≤ 1099511627776)
    (hm : m ≤ 1099511627776) (h1 : 0 ≤ st) (h2 : st ≤ 1099511627776) :
    Calls Tryz.prog 39 #[.pointer (some ⟨f, 0, none⟩), .string s, .int .i64 n] w fun e w' => e = .returned (.int .i64 0) ∧ Files w' f b (m + 1) (one k (bs.take n) (min l n)) (st + 1) (-1) false ∧ Fr (fun k => k = f ∨ k = b) w w' := by
  have hs := (size_of_named hk hn).2
  subst hk
  refine (truncate_ok w f b m _ st (-1) h s hs n bs l (holds_le' h) hb hnl (one_at _ _ _) hm h1 h2 (by omega)).mono ?_
  rintro e w' ⟨rfl, hF, hG⟩
  have e1 : ifz (-1) (one s.data.toList bs l) (upd (one s.data.toList bs l) s.data.toList (some (bs.take n, min l n))) = one s.data.toList (bs.take n) (min l n) := by
    rw [upd_one]; rfl
  rw [e1] at hF
  exact ⟨rfl, hF, hG⟩
set_option maxRecDepth 100000 in
set_option maxHeartbeats 1000000 in
theorem open_spoilt (w : World) (f b m : Nat) (st : Int) (k x : List UInt8) (l : Nat) (h : Files w f b m (one k x l) st (-1) false) (s : ByteArray) (hk : s.data.toList = k) (hn : named k = true) (hx : x.length ≤ 1073741824) (hm : m ≤ 1000000) (h1 : 0 ≤ st) (h2 : st ≤ 1000000) (hsc : scan x = none) :
    Calls Tryz.prog 21 #[.pointer (some ⟨f, 0, none⟩), .string s] w fun e w' => e = .returned (.tuple #[.pointer none, .int .i64 10]) ∧ Below w.heap.size w w' := by
  have hs := (size_of_named hk hn).2
  have HF := Lib.hid h
  clear h
  go_enter Tryz.func21, Tryz.ntmps21
  go_wp2_with fail
  refine (dead_any w f b m _ st (-1) false HF.out).mono ?_
  rintro e w' ⟨rfl, rfl⟩
  go_wp2_with fail
  refine (read1 w f b m st (-1) false k x l HF.out (by omega) s hk hs).mono ?_
  rintro e w1 ⟨v1, rfl, h1', hb1⟩
  obtain ⟨a1, k1, rfl, -, -⟩ := h1'.reads.shape
  have HV1 : Hid (Bytes w1 (.slice a1 x.length k1) x) := Lib.hid h1'.reads
  have HF1 := Lib.hid (HF.out.below hb1)
  have HB1 := Lib.hid hb1
  clear h1' hb1
  go_wp2_with fail
  refine (scan_any w1 _ x HV1.out hx).mono ?_
  rintro e w2 ⟨hso, hb2⟩
  have HF2 := Lib.hid (HF1.out.below hb2)
  have HB2 := Lib.hid (HB1.out.trans (hb2.mono HB1.out.size))
  rw [hsc] at hso
  obtain rfl := hso
  clear hb2
  go_wp2_with fail
  go_ret2
  exact ⟨rfl, HB2.out⟩
set_option maxRecDepth 100000 in
set_option maxHeartbeats 1000000 in
theorem open_whole (w : World) (f b m : Nat) (st : Int) (k x : List UInt8) (l : Nat) (h : Files w f b m (one k x l) st (-1) false) (s : ByteArray) (hk : s.data.toList = k) (hn : named k = true) (hx : x.length ≤ 1073741824) (hm : m ≤ 1000000) (h1 : 0 ≤ st) (h2 : st ≤ 1000000) (rs : List (List UInt8)) (hsc : scan x = some (rs, x.length)) :
    Calls Tryz.prog 21 #[.pointer (some ⟨f, 0, none⟩), .string s] w fun e w' => ∃ p, e = .returned (.tuple #[.pointer (some ⟨p, 0, none⟩), .int .i64 0]) ∧ LogAt w' w.heap.size p f s rs ∧ Files w' f b m (one k x l) st (-1) false ∧ Below w.heap.size w w' := by
  have hs := (size_of_named hk hn).2
  have HF := Lib.hid h
  clear h
  go_enter Tryz.func21, Tryz.ntmps21
  go_wp2_with fail
  refine (dead_any w f b m _ st (-1) false HF.out).mono ?_
  rintro e w' ⟨rfl, rfl⟩
  go_wp2_with fail
  refine (read1 w f b m st (-1) false k x l HF.out (by omega) s hk hs).mono ?_
  rintro e w1 ⟨v1, rfl, h1', hb1⟩
  obtain ⟨a1, k1, rfl, -, -⟩ := h1'.reads.shape
  have HV1 : Hid (Bytes w1 (.slice a1 x.length k1) x) := Lib.hid h1'.reads
  have HF1 := Lib.hid (HF.out.below hb1)
  have HB1 := Lib.hid hb1
  clear h1' hb1
  go_wp2_with fail
  refine (scan_any w1 _ x HV1.out hx).mono ?_
  rintro e w2 ⟨hso, hb2⟩
  have HF2 := Lib.hid (HF1.out.below hb2)
  have HB2 := Lib.hid (HB1.out.trans (hb2.mono HB1.out.size))
  rw [hsc] at hso
  obtain ⟨v2, rfl, ho2⟩ := hso
  obtain ⟨a2, k2, rfl, -, -⟩ := ho2.shape
  have HO2 := Lib.hid ho2
  clear hb2 ho2
  go_wp2_with fail
  go_ret2
  have A : Below w2.heap.size w2 (w2.alloc (.cells #[.pointer (some ⟨f, 0, none⟩), .string s, .slice a2 rs.length k2] 61)) := (Below.refl _ _).alloc (Nat.le_refl _) _
  exact ⟨_, rfl, ⟨HB2.out.size, _, heap_alloc_new w2 _, (HO2.out.mono HB1.out.size).below A⟩, HF2.out.below A, HB2.out.trans (A.mono HB2.out.size)⟩
set_option maxRecDepth 100000 in
set_option maxHeartbeats 1000000 in
theorem open_cut (w : World) (f b m : Nat) (st : Int) (k x : List UInt8) (l : Nat) (h : Files w f b m (one k x l) st (-1) false) (s : ByteArray) (hk : s.data.toList = k) (hn : named k = true) (hx : x.length ≤ 1073741824) (hm : m ≤ 1000000) (h1 : 0 ≤ st) (h2 : st ≤ 1000000) (rs : List (List UInt8)) (n : Nat) (hsc : scan x = some (rs, n)) (hnx : n < x.length) :
    Calls Tryz.prog 21 #[.pointer (some ⟨f, 0, none⟩), .string s] w fun e w' => ∃ p, e = .returned (.tuple #[.pointer (some ⟨p, 0, none⟩), .int .i64 0]) ∧ LogAt w' w.heap.size p f s rs ∧ Files w' f b (m + 2) (one k (x.take n) n) (st + 2) (-1) false ∧ Fr (fun k => k = f ∨ k = b) w w' := by
  have hs := (size_of_named hk hn).2
  have HF := Lib.hid h
  clear h
  go_enter Tryz.func21, Tryz.ntmps21
  go_wp2_with fail
  refine (dead_any w f b m _ st (-1) false HF.out).mono ?_
  rintro e w' ⟨rfl, rfl⟩
  go_wp2_with fail
  refine (read1 w f b m st (-1) false k x l HF.out (by omega) s hk hs).mono ?_
  rintro e w1 ⟨v1, rfl, h1', hb1⟩
  obtain ⟨a1, k1, rfl, -, -⟩ := h1'.reads.shape
  have HV1 : Hid (Bytes w1 (.slice a1 x.length k1) x) := Lib.hid h1'.reads
  have HF1 := Lib.hid (HF.out.below hb1)
  have HB1 := Lib.hid hb1
  clear h1' hb1
  go_wp2_with fail
  refine (scan_any w1 _ x HV1.out hx).mono ?_
  rintro e w2 ⟨hso, hb2⟩
  have HF2 := Lib.hid (HF1.out.below hb2)
  have HB2 := Lib.hid (HB1.out.trans (hb2.mono HB1.out.size))
  rw [hsc] at hso
  obtain ⟨v2, rfl, ho2⟩ := hso
  obtain ⟨a2, k2, rfl, -, -⟩ := ho2.shape
  have HO2 := Lib.hid ho2
  have hln := holds_le' HF2.out
  clear hb2 ho2
  go_wp2_with fail
  refine (trunc_f w2 f b m st k x l HF2.out s hk hn n (by omega) (by omega) (by omega) h1 (by omega)).mono ?_
  rintro e w3 ⟨rfl, h3, f3⟩
  have HF3 := Lib.hid h3
  have HO3 := Lib.hid (HO2.out.fr f3 (fun g hg => ⟨files_apart HF2.out _ (by decide) g hg, files_apart HF2.out _ (by decide) g hg⟩))
  have G3 := Lib.hid ((Fr.of_below (S := fun k => k = f ∨ k = b) HB2.out).trans f3 (fun _ _ h => h))
  clear h3 f3
  go_wp2_with fail
  refine (syn1 w3 f b _ _ k (x.take n) _ HF3.out s hk hn (by omega) (by omega) (by omega)).mono ?_
  rintro e w4 ⟨rfl, h4, f4⟩
  have HF4 := Lib.hid h4
  have HO4 := Lib.hid (HO3.out.fr f4 (fun g hg => ⟨files_apart HF3.out _ (by decide) g hg, files_apart HF3.out _ (by decide) g hg⟩))
  have G4 := Lib.hid (G3.out.trans f4 (fun _ _ h => h))
  clear h4 f4
  go_wp2_with fail
  go_ret2
  have A : Below w4.heap.size w4 (w4.alloc (.cells #[.pointer (some ⟨f, 0, none⟩), .string s, .slice a2 rs.length k2] 61)) := (Below.refl _ _).alloc (Nat.le_refl _) _
  have es : st + 1 + 1 = st + 2 := by omega
  have el : (x.take n).length = n := by simp; omega
  have HF4' := HF4.out
  rw [es, el] at HF4'
  exact ⟨_, rfl, ⟨G4.out.size, _, heap_alloc_new w4 _, (HO4.out.mono HB1.out.size).below A⟩, HF4'.below A, G4.out.trans (Fr.of_below (S := fun _ => False) A) (fun _ _ h => h.elim)⟩
set_option maxRecDepth 100000 in
set_option maxHeartbeats 1000000 in
theorem open_none (w : World) (f b m : Nat) (C : Disk) (st fu : Int) (h : Files w f b m C st fu false) (s : ByteArray) (hs : s.size ≤ maxLen) (hc : C s.data.toList = none) :
    Calls Tryz.prog 21 #[.pointer (some ⟨f, 0, none⟩), .string s] w fun e w' => e = .returned (.tuple #[.pointer none, .int .i64 8]) ∧ Below w.heap.size w w' := by
  have HF := Lib.hid h
  clear h
  go_enter Tryz.func21, Tryz.ntmps21
  go_wp2_with fail
  refine (dead_any w f b m _ st fu false HF.out).mono ?_
  rintro e w' ⟨rfl, rfl⟩
  go_wp2_with fail
  refine (read_any w f b m C st fu false HF.out s hs (by simp [cb, hc])).mono ?_
  rintro e w1 ⟨v1, rfl, h1', hb1⟩
  obtain ⟨a1, k1, rfl, -, -⟩ := h1'.reads.shape
  rw [hc]
  clear h1'
  go_wp2_with fail
  go_ret2
  exact ⟨rfl, hb1⟩
set_option maxRecDepth 100000 in
set_option maxHeartbeats 1000000 in
theorem open_nil (w : World) (s : ByteArray) :
    Calls Tryz.prog 21 #[.pointer none, .string s] w fun e w' => e = .returned (.tuple #[.pointer none, .int .i64 1]) ∧ w' = w := by
  go_enter Tryz.func21, Tryz.ntmps21
  go_wp2_with fail
  go_ret2
  exact ⟨rfl, rfl⟩
end Go.Proofs.YtpnlcogbahjnoaaGreat.F
