/- The reference's Writer: what it writes. Conditions stand at each theorem. -/
import Derived.Test.YtpnlcogbahjnoaaGreatQFrame
import Derived.Test.YtpnlcogbahjnoaaGreatText
namespace Go.Proofs.YtpnlcogbahjnoaaGreat.F
open Go.RowKit Go.Proofs.YtpnlcogbahjnoaaGreat.M
set_option linter.unusedVariables false

/-- block p is a writer that has written bs -/
def QWrAt (w : World) (base p : Nat) (bs : List UInt8) : Prop := base ≤ p ∧ base ≤ w.heap.size ∧ ∃ sv, w.heap[p]? = some (.cells #[sv, .int .i64 0] 96 (0, 0)) ∧ Owns w base 5 1 sv bs.length (bs.map M.u8)

theorem QWrAt.quiet {w w' : World} {base p : Nat} {bs : List UInt8} (h : QWrAt w base p bs) (hb : Below w.heap.size w w') : QWrAt w' base p bs := by
  obtain ⟨h1, h2, sv, h3, h4⟩ := h
  exact ⟨h1, Nat.le_trans h2 hb.size, sv, (hb.block p (lt_of_obj h3)).trans h3, owns_old h4 hb⟩
theorem owns_tag {w : World} {base : Nat} {e : TypeId} {size : Nat} {v : Value} {n : Nat} {xs : List Value} (h : Owns w base e size v n xs) {g : Nat} (hg : v.ownBlock = some g) : Tag w g e ∧ base ≤ g := by
  rcases h.2 with ⟨rfl, _⟩ | ⟨g', off, cap, cur, rfl, hbg, hh, r⟩
  · simp [Value.ownBlock] at hg
  · simp only [Value.ownBlock, Option.some.injEq] at hg
    subst hg
    exact ⟨⟨_, _, hh⟩, hbg⟩

/-- what was appended is stored -/
theorem qwr_put {w w1 w2 : World} {base p : Nat} {bs ys : List UInt8} {sv v2 : Value} (hp : base ≤ p) (hB : base ≤ w.heap.size) (h : w.heap[p]? = some (.cells #[sv, .int .i64 0] 96 (0, 0)))
    (ho : Owns w base 5 1 sv bs.length (bs.map M.u8)) (hf : Fr (fun _ => False) w w1) (hg : w1.grownBy w2 sv.ownBlock) (h2 : Owns w2 base 5 1 v2 (bs ++ ys).length ((bs ++ ys).map M.u8)) :
    QWrAt (w2.setCell ⟨p, 0, none⟩ v2) base p (bs ++ ys) ∧ Below base w (w2.setCell ⟨p, 0, none⟩ v2) := by
  have hnp : ¬ sv.ownBlock = some p := fun e => Tag.not h (by decide) (owns_tag ho e).1
  have F2 : Fr (fun k => base ≤ k ∧ sv.ownBlock = some k) w w2 := Fr.trans (S := fun k => base ≤ k ∧ sv.ownBlock = some k) (hf.mono (fun _ _ h => h.elim)) (Fr.of_grown (S := fun k => base ≤ k ∧ sv.ownBlock = some k) hg (fun k hk _ => ⟨(owns_tag ho hk).2, hk⟩)) (fun _ _ h => h)
  have z2 := F2.obj h (fun hh => hnp hh.2)
  have z3 := heap_setCell_at z2 0 v2
  simp at z3
  have F3 : Fr (fun k => k = p) w2 (w2.setCell ⟨p, 0, none⟩ v2) := Fr.setCell (Fr.refl _ _) _ _ (fun _ => rfl)
  refine ⟨⟨hp, Nat.le_trans hB (Nat.le_trans F2.size F3.size), v2, z3, Owns.fr h2 F3 ?_⟩, ?_⟩
  · rintro g hg rfl
    exact Tag.not z2 (by decide) (owns_tag h2 hg).1
  · exact ((F2.mono (S' := fun k => base ≤ k) (fun _ _ h => h.1)).trans F3 (fun x _ h => by subst h; exact hp)).below hB (fun _ h => h)

theorem qwr_keep {w w1 w2 : World} {base p : Nat} {bs : List UInt8} {sv : Value} (h : w.heap[p]? = some (.cells #[sv, .int .i64 0] 96 (0, 0)))
    (ho : Owns w base 5 1 sv bs.length (bs.map M.u8)) (hf : Fr (fun _ => False) w w1) (hg : w1.grownBy w2 sv.ownBlock) : w2.cell? ⟨p, 0, none⟩ = some sv ∧ w2.frozen? ⟨p, 0, none⟩ = false := by
  have hnp : ¬ sv.ownBlock = some p := fun e => Tag.not h (by decide) (owns_tag ho e).1
  have F2 : Fr (fun k => sv.ownBlock = some k) w w2 := Fr.trans (S := fun k => sv.ownBlock = some k) (hf.mono (fun _ _ h => h.elim)) (Fr.of_grown (S := fun k => sv.ownBlock = some k) hg (fun k hk _ => hk)) (fun _ _ h => h)
  have z2 := F2.obj h hnp
  exact ⟨by simpa using cell_at z2 0, free_at z2 0⟩
theorem hv_old {B : Nat} {w w' : World} {v : Value} {bs : List UInt8} (h : Bytes w v bs) (hb : Below B w w') (hB : w.heap.size ≤ B) : Bytes w' v bs := Reads.old h hb hB
theorem qwr_fail {w : World} {base p : Nat} {bs : List UInt8} (h : QWrAt w base p bs) : w.cell? ⟨p, 1, none⟩ = some (.int .i64 0) := by
  obtain ⟨-, -, sv, h3, -⟩ := h
  simpa using cell_at h3 1
theorem and127_i64 (n : Nat) (hn : n < 9223372036854775808) : bits .and .i64 (n : Int) 127 = ((n % 128 : Nat) : Int) := by
  show IntKind.i64.wrap (((BitVec.ofInt 64 (n : Int) &&& BitVec.ofInt 64 ((127 : Nat) : Int)).toNat : Nat) : Int) = _
  have e : (BitVec.ofInt 64 (n : Int) &&& BitVec.ofInt 64 ((127 : Nat) : Int)).toNat = n % 128 := by
    rw [BitVec.toNat_and, BitVec.ofInt_natCast, BitVec.ofInt_natCast, BitVec.toNat_ofNat, BitVec.toNat_ofNat, Nat.mod_eq_of_lt (by omega), Nat.mod_eq_of_lt (by decide)]
    exact Nat.and_two_pow_sub_one_eq_mod n 7
  rw [e]
  exact IntWalk.i64_in _ (by omega)
theorem or128f : ∀ x : Fin 128, bits .or .i64 (x.val : Int) 128 = ((x.val + 128 : Nat) : Int) := by decide +kernel
theorem or128_i64 (m : Nat) (hm : m < 128) : bits .or .i64 (m : Int) 128 = ((m + 128 : Nat) : Int) := or128f ⟨m, hm⟩

set_option maxRecDepth 100000 in
set_option maxHeartbeats 1000000 in
theorem qwnum_any (w : World) (base p : Nat) (bs : List UInt8) (h : QWrAt w base p bs) (n : Nat) (hn : n ≤ 1099511627776) (hl : bs.length ≤ 1099511627776) :
    Calls Tryz.prog 60 #[.pointer (some ⟨p, 0, none⟩), .int .i64 n] w fun e w' => e = .returned (.tuple #[]) ∧ QWrAt w' base p (bs ++ encNum n) ∧ Below base w w' := by
  obtain ⟨i, hi, hz0, hz1, hz2⟩ := info_parts infoU8
  have HW := Lib.hid h
  have Hi := Lib.hid hi
  have Hz0 := Lib.hid hz0
  have Hz1 := Lib.hid hz1
  have Hz2 := Lib.hid hz2
  clear h hi hz0 hz1 hz2
  go_enter Tryz.func60, Tryz.ntmps60
  have hf := qwr_fail HW.out
  go_wp2_with fail
  go_loopg [1] n (fun k s1 wr => ∃ (m : Nat) (ds : List UInt8), k = m ∧ m ≤ n ∧ s1 = .int .i64 m ∧ ds ++ encNum m = encNum n ∧ ds.length + m ≤ n ∧ Hid (QWrAt wr base p (bs ++ ds)) ∧ Below base w wr)
  case atStart => exact ⟨n, [], rfl, Nat.le_refl _, rfl, rfl, by simp, by rw [List.append_nil]; exact HW, Below.refl _ _⟩
  case round =>
    obtain ⟨m, ds, hgk, hm, rfl, hds, hlen, hwr, hb⟩ := hrel
    subst hgk
    have HB := Lib.hid hb
    have HDS := Lib.hid hds
    clear hb hds
    obtain ⟨hp, hB, sv, z, ho⟩ := hwr.out
    have hlb : (bs ++ ds).length ≤ 2199023255552 := by simp; omega
    obtain ⟨sa, scap, hsv, hs1, hs2⟩ := ho.reads.shape
    generalize hbd : bs ++ ds = bd at *
    have HBD := Lib.hid hbd
    clear hbd
    subst hsv
    have c0 := cell_at z 0
    have f0 := free_at z 0
    simp at c0
    have HO := Lib.hid ho
    have HZ := Lib.hid z
    clear ho z
    by_cases hbig : gk < 128
    · have ecell : M.u8 (UInt8.ofNat gk) = .int .u8 (gk : Int) := by
        have : (UInt8.ofNat gk).toNat = gk := by rw [UInt8.toNat_ofNat']; omega
        simp [M.u8, this]
      go_wp2_with (at_builtin; refine wpList_append_owns rfl _ _ 52 rfl base 5 i (.int .u8 0) 1 1 Tryz.underlying52 Hi.out Hz0.out Hz1.out Hz2.out rfl (.slice sa bd.length scap) bd.length _ rfl (Owns.fr HO.out ((Fr.refl (fun _ => False) _).alloc _) (fun _ _ => id)) _ 1 [.int .u8 (gk : Int)] rfl (Reads.one (heap_alloc_new wr _)) (by simp [Value.oneCell']) (bd.length + 1) rfl _ rfl (by omega) (by omega) (Nat.le_trans hB (by simp)) ?_; intro q5 k5 w2 h2 h6 h7 h3 h4; obtain ⟨q1, q2⟩ := qwr_keep HZ.out HO.out ((Fr.refl (fun _ => False) wr).alloc _) h3; have H2 := Lib.hid h2; have H3 := Lib.hid h3; clear h2 h3 h4)
      go_end0
      have hd := qwr_put hp hB HZ.out HO.out ((Fr.refl (fun _ => False) wr).alloc _) H3.out (ys := [UInt8.ofNat gk]) (by
        have := H2.out
        rw [← ecell] at this
        simpa using this)
      have e : bd ++ [UInt8.ofNat gk] = bs ++ encNum n := by rw [← HDS.out, encNum_small hbig, ← HBD.out, List.append_assoc]
      rw [e] at hd
      exact ⟨rfl, hd.1, HB.out.trans hd.2⟩
    · have hor : bits .or .i64 (bits .and .i64 (gk : Int) 127) 128 % 256 = ((UInt8.ofNat (gk % 128 + 128)).toNat : Nat) := by
        rw [and127_i64 gk (by omega), or128_i64 (gk % 128) (by omega), UInt8.toNat_ofNat']
        omega
      go_wp2_with (at_builtin; refine wpList_append_owns rfl _ _ 52 rfl base 5 i (.int .u8 0) 1 1 Tryz.underlying52 Hi.out Hz0.out Hz1.out Hz2.out rfl (.slice sa bd.length scap) bd.length _ rfl (Owns.fr HO.out ((Fr.refl (fun _ => False) _).alloc _) (fun _ _ => id)) _ 1 [.int .u8 ((UInt8.ofNat (gk % 128 + 128)).toNat : Nat)] rfl (Reads.one (heap_alloc_new wr _)) (by simp [Value.oneCell']) (bd.length + 1) rfl _ rfl (by omega) (by omega) (Nat.le_trans hB (by simp)) ?_; intro q5 k5 w2 h2 h6 h7 h3 h4; obtain ⟨q1, q2⟩ := qwr_keep HZ.out HO.out ((Fr.refl (fun _ => False) wr).alloc _) h3; have H2 := Lib.hid h2; have H3 := Lib.hid h3; clear h2 h3 h4)
      have hd := qwr_put hp hB HZ.out HO.out ((Fr.refl (fun _ => False) wr).alloc _) H3.out (ys := [UInt8.ofNat (gk % 128 + 128)]) (by
        have := H2.out
        simpa [M.u8] using this)
      have HD := Lib.hid hd
      clear hd
      go_roundg (gk / 128)
      case measure => omega
      case rel =>
        refine ⟨gk / 128, ds ++ [UInt8.ofNat (gk % 128 + 128)], rfl, by omega, by simp, ?_, by simp; omega, ?_, HB.out.trans HD.out.2⟩
        · rw [← HDS.out, encNum_big hbig, List.append_assoc]; rfl
        · rw [← List.append_assoc, HBD.out]; exact Lib.hid HD.out.1

set_option maxRecDepth 100000 in
set_option maxHeartbeats 1000000 in
theorem qwbytes_any (w0 w : World) (base p : Nat) (bs : List UInt8) (h : QWrAt w base p bs) (v : Value) (cs : List UInt8) (hv : Bytes w0 v cs) (hB0 : w0.heap.size ≤ base) (hb0 : Below base w0 w) (hn : cs.length ≤ 1048576) (hl : bs.length ≤ 1073741824) :
    Calls Tryz.prog 61 #[.pointer (some ⟨p, 0, none⟩), v] w fun e w' => e = .returned (.tuple #[]) ∧ QWrAt w' base p (bs ++ (encNum cs.length ++ cs)) ∧ Below base w w' := by
  obtain ⟨i, hi, hz0, hz1, hz2⟩ := info_parts infoU8
  obtain ⟨a, cap, rfl, hc, hm⟩ := hv.shape
  have HV := Lib.hid hv
  have HW := Lib.hid h
  have HB0 := Lib.hid hb0
  have Hi := Lib.hid hi
  have Hz0 := Lib.hid hz0
  have Hz1 := Lib.hid hz1
  have Hz2 := Lib.hid hz2
  have hf := qwr_fail h
  clear h hi hz0 hz1 hz2 hv hb0
  go_enter Tryz.func61, Tryz.ntmps61
  go_wp2_with fail
  refine (qwnum_any w base p bs HW.out cs.length (by omega) (by omega)).mono ?_
  rintro e w1 ⟨rfl, hwr, hb⟩
  have HB := Lib.hid hb
  have HR := Lib.hid (hv_old HV.out (HB0.out.trans hb) hB0)
  have hel : (encNum cs.length).length ≤ 6 := encNum_len 5 cs.length (by omega)
  clear hb
  obtain ⟨hp, hB, sv, z, ho⟩ := hwr
  have hlb : (bs ++ encNum cs.length).length ≤ 2199023255552 := by simp; omega
  obtain ⟨sa, scap, hsv, hs1, hs2⟩ := ho.reads.shape
  generalize hbd : bs ++ encNum cs.length = bd at *
  have HBD := Lib.hid hbd
  clear hbd
  subst hsv
  have c0 := cell_at z 0
  have f0 := free_at z 0
  simp at c0
  have HO := Lib.hid ho
  have HZ := Lib.hid z
  clear ho z
  go_wp2_with (at_builtin; refine wpList_append_owns rfl _ _ 52 rfl base 5 i (.int .u8 0) 1 1 Tryz.underlying52 Hi.out Hz0.out Hz1.out Hz2.out rfl (.slice sa bd.length scap) bd.length _ rfl HO.out (.slice a cs.length cap) cs.length _ rfl HR.out (u8_one _) (bd.length + cs.length) rfl _ rfl (by omega) (by omega) hB ?_; intro q5 k5 w2 h2 h6 h7 h3 h4; obtain ⟨q1, q2⟩ := qwr_keep HZ.out HO.out (Fr.refl (fun _ => False) w1) h3; have H2 := Lib.hid h2; have H3 := Lib.hid h3; clear h2 h3 h4)
  go_end0
  have hd := qwr_put hp hB HZ.out HO.out (Fr.refl (fun _ => False) _) H3.out (ys := cs) (by
    have := H2.out
    rw [← List.map_append, ← List.length_append] at this
    exact this)
  rw [← HBD.out, List.append_assoc] at hd
  have hle : bd.length + cs.length = (bs ++ (encNum cs.length ++ cs)).length := by rw [← HBD.out]; simp; omega
  rw [hle]
  exact ⟨rfl, hd.1, HB.out.trans hd.2⟩

set_option maxRecDepth 100000 in
set_option maxHeartbeats 1000000 in
theorem qwdone_any (w : World) (base p : Nat) (bs : List UInt8) (h : QWrAt w base p bs) (hl : bs.length ≤ 1099511627776) :
    Calls Tryz.prog 62 #[.pointer (some ⟨p, 0, none⟩)] w fun e w' => ∃ v', e = .returned (.tuple #[v', .int .i64 0]) ∧ Owns w' w.heap.size 5 1 v' bs.length (bs.map M.u8) ∧ Below w.heap.size w w' := by
  have hf := qwr_fail h
  obtain ⟨hp, hB, sv, z, ho⟩ := h
  have hr := ho.reads
  obtain ⟨sa, scap, hsv, hs1, hs2⟩ := hr.shape
  subst hsv
  have c0 := cell_at z 0
  simp at c0
  have HR := Lib.hid hr
  clear ho z hr
  go_enter Tryz.func62, Tryz.ntmps62
  go_wp2_with fail
  refine (copy_any w _ bs HR.out hl).mono ?_
  rintro e w1 ⟨v1, rfl, ho, hb⟩
  obtain ⟨a1, k1, rfl, -, -⟩ := ho.reads.shape
  have HO := Lib.hid ho
  clear ho
  go_wp2_with fail
  go_ret2
  exact ⟨_, rfl, HO.out, hb⟩
end Go.Proofs.YtpnlcogbahjnoaaGreat.F
