/- codec's Writer: texts, bytes, and what was written. Conditions stand at each theorem. -/
import Derived.Test.YtpnlcogbahjnoaaGreatWriter
namespace Go.Proofs.YtpnlcogbahjnoaaGreat.F
open Go.RowKit Go.Proofs.YtpnlcogbahjnoaaGreat.M
set_option linter.unusedVariables false

theorem conv_string {w : World} {v : Value} {bs : List UInt8} (h : Bytes w v bs) : ∃ s : ByteArray, s.data.toList = bs ∧ (convert 52 9 v).run Tryz.prog w = .ok (.string s) w := by
  rcases h.2 with ⟨rfl, h0⟩ | ⟨⟨g, off, sp⟩, cap, rfl, hn, hm, hcell⟩
  · have : bs = [] := List.eq_nil_of_length_eq_zero h0
    subst this
    exact ⟨ByteArray.empty, rfl, run_convert_bytes_nil w 52 5 Tryz.underlying52 Tryz.underlying5 _ _ _ Tryz.underlying9⟩
  · by_cases h0 : bs = []
    · subst h0
      refine ⟨ByteArray.empty, rfl, ?_⟩
      rw [run_convert_bytes_string w 52 9 5 _ _ _ Tryz.underlying52 Tryz.underlying5 Tryz.underlying9]
      exact run_bytesToString w ⟨g, off, sp⟩ 0 cap [] (by simpa using run_loadCells_list (P := Tryz.prog) w ⟨g, off, sp⟩ [] (fun j v hj => by simp at hj))
    · have hsp : sp = none := by
        obtain ⟨b, l, rfl⟩ := List.exists_cons_of_ne_nil h0
        exact (hcell 0 _ rfl).1
      subst hsp
      refine ⟨strOfNums (bs.map fun b => (b.toNat : Int)), ?_, ?_⟩
      · rw [strOfNums_data, List.map_map]
        have : ((fun n : Int => UInt8.ofNat n.toNat) ∘ fun b : UInt8 => (b.toNat : Int)) = id := by
          funext b
          simp
        rw [this, List.map_id]
      · refine run_convert_bytes_arg w 52 5 Tryz.underlying52 Tryz.underlying5 g off _ cap _ (by simp) (fun i hi => ?_) _ Tryz.underlying9
        have := (hcell i (M.u8 bs[i]) (by simp [hi])).2
        simp only at this
        rw [this]
        simp [M.u8, List.getD_eq_getElem?_getD, hi]

theorem strCells_eq (s : ByteArray) : Lib.strCells s = s.data.toList.map M.u8 := rfl

set_option maxRecDepth 100000 in
set_option maxHeartbeats 1000000 in
theorem wtext_any (w : World) (base p : Nat) (bs : List UInt8) (h : WrAt w base p bs) (s : ByteArray) (hn : s.size ≤ 1048576) (hl : bs.length ≤ 1073741824) :
    Calls Tryz.prog 73 #[.pointer (some ⟨p, 0, none⟩), .string s] w fun e w' => e = .returned (.tuple #[]) ∧ WrAt w' base p (bs ++ (encNum s.size ++ s.data.toList)) ∧ Below base w w' := by
  obtain ⟨i, hi, hz0, hz1, hz2⟩ := info_parts infoU8
  have HW := Lib.hid h
  have Hi := Lib.hid hi
  have Hz0 := Lib.hid hz0
  have Hz1 := Lib.hid hz1
  have Hz2 := Lib.hid hz2
  have hsl : s.data.toList.length = s.size := by simp
  have HSL := Lib.hid hsl
  clear h hi hz0 hz1 hz2 hsl
  go_enter Tryz.func73, Tryz.ntmps73
  go_wp2_with fail
  refine (may_any w base p bs HW.out _ (decide_eq_true (by omega)) 3).mono ?_
  rintro e w' ⟨rfl, rfl⟩
  go_wp2_with fail
  refine (wnum_any w' base p bs HW.out s.size (by omega) (by omega)).mono ?_
  rintro e w1 ⟨rfl, hwr, hb⟩
  have HB := Lib.hid hb
  have hel : (encNum s.size).length ≤ 6 := encNum_len 5 s.size (by omega)
  clear hb
  obtain ⟨hp, hB, sv, z, ho⟩ := hwr
  have hlb : (bs ++ encNum s.size).length ≤ 2199023255552 := by simp; omega
  obtain ⟨sa, scap, hsv, hs1, hs2⟩ := (Owns.of_row ho).reads.shape
  generalize hbd : bs ++ encNum s.size = bd at *
  have HBD := Lib.hid hbd
  clear hbd
  subst hsv
  have c1 := cell_at z 1
  have f1 := free_at z 1
  simp at c1
  have HO := Lib.hid ho
  have HZ := Lib.hid z
  clear ho z
  go_wp2_with (at_builtin; refine Lib.wpList_append_own_string _ rfl _ _ 52 9 rfl base 5 i Tryz.underlying52 Tryz.underlying9 Hi.out Hz0.out Hz1.out Hz2.out (.slice sa bd.length scap) bd.length _ rfl HO.out s rfl (by simp only [maxLen]; omega) (by omega) hB ?_; intro v2 w2 h2 h3 h4; obtain ⟨q5, k5, rfl, -, -⟩ := (Owns.of_row h2).reads.shape; obtain ⟨q1, q2⟩ := wr_keep HZ.out HO.out (Fr.refl (fun _ => False) _) h3; have H2 := Lib.hid h2; have H3 := Lib.hid h3; clear h2 h3 h4)
  go_end0
  have hd := wr_put hp hB HZ.out HO.out (Fr.refl (fun _ => False) _) H3.out (ys := s.data.toList) (by
    have := H2.out
    rw [strCells_eq, ← List.map_append, ← HSL.out, ← List.length_append] at this
    exact this)
  rw [← HBD.out, List.append_assoc] at hd
  have hle : bd.length + s.size = (bs ++ (encNum s.size ++ s.data.toList)).length := by rw [← HBD.out]; simp; omega
  rw [hle]
  exact ⟨rfl, hd.1, HB.out.trans hd.2⟩

set_option maxRecDepth 100000 in
set_option maxHeartbeats 1000000 in
theorem wbytes_any (w : World) (base p : Nat) (bs : List UInt8) (h : WrAt w base p bs) (v : Value) (cs : List UInt8) (hv : Bytes w v cs) (hn : cs.length ≤ 1048576) (hl : bs.length ≤ 1073741824) :
    Calls Tryz.prog 57 #[.pointer (some ⟨p, 0, none⟩), v] w fun e w' => e = .returned (.tuple #[]) ∧ WrAt w' base p (bs ++ (encNum cs.length ++ cs)) ∧ Below base w w' := by
  obtain ⟨s, hs, hconv⟩ := conv_string hv
  obtain ⟨a, cap, rfl, hc, hm⟩ := hv.shape
  have HW := Lib.hid h
  have hsz : s.size = cs.length := by rw [← hs]; simp
  have HS := Lib.hid hs
  have HSZ := Lib.hid hsz
  have hn' : s.size ≤ 1048576 := by omega
  clear h hv hs hsz
  go_enter Tryz.func57, Tryz.ntmps57
  go_wp2_with fail
  refine (wtext_any w base p bs HW.out s hn' hl).mono ?_
  rintro e w1 ⟨rfl, h1, hb1⟩
  rw [HSZ.out, HS.out] at h1
  have H1 := Lib.hid h1
  clear h1
  go_wp2_with fail
  go_end0
  exact ⟨rfl, H1.out, hb1⟩

set_option maxRecDepth 100000 in
set_option maxHeartbeats 1000000 in
theorem wdone_any (w : World) (base p : Nat) (bs : List UInt8) (h : WrAt w base p bs) (hl : bs.length ≤ 1099511627776) :
    Calls Tryz.prog 58 #[.pointer (some ⟨p, 0, none⟩)] w fun e w' => ∃ v', e = .returned (.tuple #[v', .int .i64 0]) ∧ Owns w' w.heap.size 5 1 v' bs.length (bs.map M.u8) ∧ Below w.heap.size w w' := by
  obtain ⟨i, hi, hz0, hz1, hz2⟩ := info_parts infoU8
  have Hi := Lib.hid hi
  have Hz0 := Lib.hid hz0
  have Hz1 := Lib.hid hz1
  have Hz2 := Lib.hid hz2
  obtain ⟨hp, hB, sv, z, ho⟩ := h
  have hr := (Owns.of_row ho).reads
  obtain ⟨sa, scap, hsv, hs1, hs2⟩ := hr.shape
  subst hsv
  have c0 := cell_at z 0
  have c1 := cell_at z 1
  have c2 := cell_at z 2
  simp at c0 c1 c2
  have HR := Lib.hid hr
  clear hi hz0 hz1 hz2 ho z hr
  go_enter Tryz.func58, Tryz.ntmps58
  go_wp2_with (at_builtin; refine wpList_append_owns rfl _ _ 52 rfl w.heap.size 5 i (.int .u8 0) 1 1 Tryz.underlying52 Hi.out Hz0.out Hz1.out Hz2.out rfl (.slice none 0 0) 0 [] rfl (Owns.nil _ _ _ _) (.slice sa bs.length scap) bs.length (bs.map M.u8) rfl HR.out (u8_one _) bs.length (Nat.zero_add _) (bs.map M.u8) rfl (by omega) (by omega) (Nat.le_refl _) ?_; intro q k w' h1 h2 h3 h4 h5; have H1 := Lib.hid h1; have H4 := Lib.hid h4; clear h1 h4 h5)
  go_ret2
  exact ⟨_, rfl, H1.out, Fr.below (Fr.of_grown (S := fun x => w.heap.size ≤ x) H4.out (fun x hx _ => by simp [Value.ownBlock] at hx)) (Nat.le_refl _) (fun x hx => hx)⟩
end Go.Proofs.YtpnlcogbahjnoaaGreat.F
