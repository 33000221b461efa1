/- The reference's disk: a first file, the first Append; Sync, Truncate, Read. Conditions stand at each theorem. -/
import Derived.Test.YtpnlcogbahjnoaaGreatQDisk
namespace Go.Proofs.YtpnlcogbahjnoaaGreat.F
open Go.RowKit Go.Proofs.YtpnlcogbahjnoaaGreat.M
set_option linter.unusedVariables false

theorem infoOne : (Tryz.prog.info? 76).map (fun i => (i.zero, i.size, i.bytes)) = some (some (.agg #[.string ⟨#[]⟩, .slice none 0 0, .int .i64 0]), 3, 48) := by kernel_rfl
theorem reads_three {w : World} {g : Nat} {a b c : Value} {t : TypeId} {fz : Nat × Nat} (h : w.heap[g]? = some (.cells #[a, b, c] t fz)) : Reads w 3 (.slice (some ⟨g, 0, none⟩) 1 1) 1 [a, b, c] := by
  refine ⟨rfl, .inr ⟨⟨g, 0, none⟩, 1, rfl, Nat.le_refl _, by decide, fun j u hj => ⟨rfl, ?_⟩⟩⟩
  rw [cell_at h]
  simpa using hj
theorem OwnZ_fr {S : Nat → Prop} {w w' : World} {base : Nat} {e : TypeId} {size : Nat} {v : Value} {n : Nat} {xs : List Value} (h : OwnZ w base e size v n xs) (hf : Fr S w w') (hd : ∀ g, v.ownBlock = some g → ¬ S g) : OwnZ w' base e size v n xs :=
  h.imp (fun h => h.fr hf hd) id

set_option maxRecDepth 100000 in
set_option maxHeartbeats 2000000 in
theorem qin_any (w : World) (g : Nat) (st fu : Int) (dead : Bool) (hd : QD w g (.slice none 0 0) st fu dead) (s : ByteArray) :
    Calls Tryz.prog 54 #[.pointer (some ⟨g, 0, none⟩), .agg #[.string s, .slice none 0 0, .int .i64 0]] w fun e w' => e = .returned (.tuple #[]) ∧ ∃ h o cap, w.heap.size ≤ h ∧ 1 ≤ cap ∧ QD w' g (.slice (some ⟨h, o, none⟩) 1 cap) st fu dead ∧ QFile w' h o s [] 0 ∧ Fr (fun k => k = g) w w' := by
  obtain ⟨i, hi, hz0, hz1, hz2⟩ := info_parts infoOne
  have Hi := Lib.hid hi
  have Hz0 := Lib.hid hz0
  have Hz1 := Lib.hid hz1
  have Hz2 := Lib.hid hz2
  have HD := Lib.hid hd
  have hgl := lt_of_obj hd
  obtain ⟨c0, -, -, -⟩ := hd.cells
  clear hi hz0 hz1 hz2 hd
  go_enter Tryz.func54, Tryz.ntmps54
  go_wp2_with fail
  have A : Below w.heap.size w (w.alloc (.cells #[.string s, .slice none 0 0, .int .i64 0] 76)) := (Below.refl _ _).alloc (Nat.le_refl _) _
  have zb := heap_alloc_new w (.cells #[.string s, .slice none 0 0, .int .i64 0] 76)
  have c1 := ((bcell A).1 g 0 hgl).trans c0
  have n1 := ((bcell A).2 g 0 hgl).trans (free_at HD.out 0)
  have HA := Lib.hid A
  clear A c0
  generalize w.alloc (.cells #[.string s, .slice none 0 0, .int .i64 0] 76) = w1 at *
  have b0 := cell_at zb 0
  have b1 := cell_at zb 1
  have b2 := cell_at zb 2
  simp at b0 b1 b2
  clear zb
  go_loopg [4] 1 (fun k s4 wr => s4 = .int .i64 0 ∧ wr = w1)
  case atStart => exact ⟨rfl, rfl⟩
  case round =>
    obtain ⟨rfl, rfl⟩ := hrel
    go_upto_region 2 with fail
    go_quiet (fail)
    have HW := Lib.hid (below_drewN HA.out nq)
    have c2 : (wr.drewN nq).cell? ⟨g, 0, none⟩ = some (.slice none 0 0) := c1
    have n2 : (wr.drewN nq).frozen? ⟨g, 0, none⟩ = false := n1
    have b0' : (wr.drewN nq).cell? ⟨w.heap.size, 0, none⟩ = some (.string s) := b0
    have b1' : (wr.drewN nq).cell? ⟨w.heap.size, 1, none⟩ = some (.slice none 0 0) := b1
    have b2' : (wr.drewN nq).cell? ⟨w.heap.size, 2, none⟩ = some (.int .i64 0) := b2
    have hgl2 : g < (wr.drewN nq).heap.size := Nat.lt_of_lt_of_le hgl HW.out.size
    clear b0 b1 b2 c1 n1
    generalize wr.drewN nq = w2 at *
    go_wp2_with (at_builtin; (first | (refine wpList_append_ownz rfl _ _ 46 rfl w2.heap.size 76 i (.agg #[.string ⟨#[]⟩, .slice none 0 0, .int .i64 0]) 3 48 Tryz.underlying46 Hi.out Hz0.out Hz1.out Hz2.out rfl (.slice (some ⟨w2.heap.size, 0, none⟩) 0 0) 0 [] rfl (.inr ⟨⟨_, rfl⟩, rfl, rfl⟩) (.slice none 0 0) 0 [] rfl (Reads.nil _ _) (by simp) 0 rfl [] rfl (by omega) (by omega) (by simp) ?_; intro q3 k3 w3 y1 y2 y3 y4; have Y3 := Lib.hid y1; have F3 := Lib.hid (Fr.trans (S' := fun k => w2.heap.size ≤ k) (S := fun _ => False) (Fr.alloc (Fr.refl _ w2) _) (y4.mono (fun _ _ h => h.1)) (fun k hk hh => absurd hk (by omega))); have b30 := F3.out.cell_some b0' id; have b31 := F3.out.cell_some b1' id; have b32 := F3.out.cell_some b2' id; clear y1 y4) | (refine wpList_append_ownz rfl _ _ 46 rfl w2.heap.size 76 i (.agg #[.string ⟨#[]⟩, .slice none 0 0, .int .i64 0]) 3 48 Tryz.underlying46 Hi.out Hz0.out Hz1.out Hz2.out rfl (.slice q3 0 k3) 0 [] rfl (OwnZ_fr Y3.out ((Fr.refl (fun _ => False) w3).alloc _) (fun _ _ => id)) (.slice (some ⟨w3.heap.size, 0, none⟩) 1 1) 1 [.string s, .slice none 0 0, .int .i64 0] rfl (reads_three (heap_alloc_new w3 _)) (by simp [Value.oneCell']) 1 rfl [.string s, .slice none 0 0, .int .i64 0] rfl (by omega) (by omega) (Nat.le_trans F3.out.size (by simp)) ?_; intro q4 k4 w4 y1 y2 y3 y4; have Y4 := Lib.hid y1; have F4 := Lib.hid (Fr.trans (S' := fun k => w2.heap.size ≤ k) (S := fun _ => False) (Fr.alloc F3.out _) (y4.mono (fun _ _ h => h.1)) (fun k hk hh => absurd hk (by omega))); have c4 := F4.out.cell_some c2 id; clear y1 y4) | (refine wpList_append_ownz rfl _ _ 46 rfl w2.heap.size 76 i (.agg #[.string ⟨#[]⟩, .slice none 0 0, .int .i64 0]) 3 48 Tryz.underlying46 Hi.out Hz0.out Hz1.out Hz2.out rfl (.slice q4 1 k4) 1 [.string s, .slice none 0 0, .int .i64 0] rfl Y4.out (.slice none 0 0) 0 [] rfl (Reads.nil _ _) (by simp) 1 rfl [.string s, .slice none 0 0, .int .i64 0] rfl (by omega) (by omega) F4.out.size ?_; intro q5 k5 w5 y1 y2 y3 y4; have Y5 := Lib.hid y1; have F5 := Lib.hid (Fr.trans (S' := fun k => w2.heap.size ≤ k) (S := fun _ => False) F4.out (y4.mono (fun _ _ h => h.1)) (fun k hk hh => absurd hk (by omega))); have c5 := F5.out.cell_some c2 id; have n5 := (F5.out.frozen (o := 0) hgl2 id).trans n2; clear y1 y4)))
    have G5 : Fr (fun _ => False) w w5 := (Fr.of_below (S := fun _ => False) HW.out).trans F5.out (fun _ _ h => h)
    have hd5 := (HD.out.fr G5 id).set0 (.slice q5 1 k5)
    rcases Y5.out with ho | ⟨-, h0, -⟩
    · rcases ho.2 with ⟨-, h0⟩ | ⟨h, off, cap, cur, he, hbh, hz, hc1, hc2, hc3, hcell⟩
      · omega
      · cases he
        have hq5 : QFile w5 h off s [] 0 := ⟨cur, _, hz, by simpa using hcell 0 _ rfl, hcell 1 _ rfl, hcell 2 _ rfl, OB.nil w5⟩
        have hgh : ¬ h = g := tag_ne hq5.tag (HD.out.fr G5 id).tag (by decide)
        have hq6 := hq5.fr hd5.2 hgh (by rintro k rfl; exact Tag.not (HD.out.fr G5 id) (by decide))
        have HD6 := Lib.hid hd5.1
        have HQ6 := Lib.hid hq6
        have HF6 := Lib.hid ((G5.mono (S' := fun k => k = g) (fun _ _ h => h.elim)).trans hd5.2 (fun _ _ h => h))
        have hws := HW.out.size
        clear hd5 hq5 hq6 G5 hcell
        go_end0
        exact ⟨rfl, h, off, k5, Nat.le_trans hws hbh, hc1, HD6.out, HQ6.out, HF6.out⟩
    · omega
end Go.Proofs.YtpnlcogbahjnoaaGreat.F

namespace Go.Proofs.YtpnlcogbahjnoaaGreat.F
open Go.RowKit Go.Proofs.YtpnlcogbahjnoaaGreat.M
set_option linter.unusedVariables false

set_option maxRecDepth 100000 in
set_option maxHeartbeats 2000000 in
theorem qapp0 (w : World) (g : Nat) (st : Int) (hd : QD w g (.slice none 0 0) st (-1) false) (s : ByteArray) (hs1 : 0 < s.size) (hs2 : s.size ≤ 24) (h1 : 0 ≤ st) (h2 : st ≤ 1000000) :
    Calls Tryz.prog 29 #[.pointer (some ⟨g, 0, none⟩), .string s, .slice none 0 0] w fun e w' => e = .returned (.int .i64 0) ∧ ∃ h o cap, w.heap.size ≤ h ∧ 1 ≤ cap ∧ QD w' g (.slice (some ⟨h, o, none⟩) 1 cap) (st + 1) (-1) false ∧ QFile w' h o s [] 0 ∧ Fr (fun k => k = g) w w' := by
  obtain ⟨i, hi, hz0, hz1, hz2⟩ := info_parts infoU8
  obtain ⟨c0, -, -, c3⟩ := hd.cells
  have HD := Lib.hid hd
  have Hi := Lib.hid hi
  have Hz0 := Lib.hid hz0
  have Hz1 := Lib.hid hz1
  have Hz2 := Lib.hid hz2
  clear hd hi hz0 hz1 hz2
  go_enter Tryz.func29, Tryz.ntmps29
  go_wp2_with fail
  refine (qname_any w s hs1 hs2).mono ?_
  rintro e w ⟨rfl, rfl⟩
  go_wp2_with fail
  refine (qstep_any w g _ st (-1) HD.out h1 (by omega) (by omega)).mono ?_
  rintro e w1 ⟨rfl, hd1, f1⟩
  have hs1' : stepF (-1) = -1 := by decide
  have hs2' : (!decide ((-1 : Int) = 0)) = true := by decide
  have hs3' : decide ((-1 : Int) = 0) = false := by decide
  rw [hs1', hs3'] at hd1
  rw [hs2']
  have HD1 := Lib.hid hd1
  have F1 := Lib.hid f1
  clear hd1 f1 c0 c3 hs1' hs2' hs3'
  go_wp2_with fail
  refine (qfind_none w1 g _ _ _ HD1.out s).mono ?_
  rintro e w1 ⟨rfl, rfl⟩
  go_wp2_with fail
  refine (qin_any w1 g _ _ _ HD1.out s).mono ?_
  rintro e w2 ⟨rfl, h, o, cap, hwh, hcap, hd2, hf2, f2⟩
  have HD0 := HD1
  have hgw := lt_of_obj HD1.out
  have hws := F1.out.size
  have F1 := Lib.hid (F1.out.trans f2 (fun _ _ h => h))
  have hgh : ¬ h = g := tag_ne hf2.tag hd2.tag (by decide)
  have HD1 := Lib.hid hd2
  have HF1 := Lib.hid hf2
  clear hd2 hf2 f2 HD0
  generalize hw1 : w2 = w1' at *
  clear hw1
  go_wp2_with fail
  refine (qfind_one w1' g h o cap _ _ _ HD1.out hcap s [] 0 HF1.out).mono ?_
  rintro e w1'' ⟨rfl, rfl⟩
  obtain ⟨c0, -, -, -⟩ := HD1.out.cells
  obtain ⟨bv, d0, d1, d2, e1, e2, hob⟩ := HF1.out.cells
  obtain ⟨ba, bcap, rfl, hbc, hbm⟩ := hob.1.shape
  have HOB := Lib.hid hob
  clear hob d0 d2 e2
  go_upto_region 9 with fail
  have hgl := lt_of_obj HD1.out
  have hhl := HF1.out.tag.lt
  go_region_law ((first | (refine step_append_owns_h (by rfl) _ _ 52 rfl w1''.heap.size 5 i (.int .u8 0) 1 1 Tryz.underlying52 Hi.out Hz0.out Hz1.out Hz2.out rfl (.slice a5 0 k5) 0 ([]) rfl HO5.out (.slice none 0 0) 0 [] rfl (Reads.nil _ _) (by simp) (0) rfl (([] : List Value)) rfl (by omega) (by omega) G5.out.size ?_; intro q kq w6 t1 t2 t3 t4 t5; have F6 : Fr (fun _ => False) w1'' w6 := (Fr.of_below (S := fun _ => False) G5.out).trans (Fr.of_grown (S := fun k => w1''.heap.size ≤ k) t4 (fun k hk _ => (HO5.out.base_le k hk).1)) (fun k hk hh => absurd hk (by omega)); have y6 := F6.cell_some d1 id; have z6 := F6.cell_some c0 id; have n6 := (F6.frozen (o := o + 1) hhl id).trans e1; have T1 := Lib.hid t1; have T6 := Lib.hid F6; clear t1 t4 t5 F6) | (go_simp; go_at_call 35; refine (copy_any _ _ [] (Reads.below HOB.out.1 (below_drewN (Below.refl _ w1'') 1)) (by simp)).mono ?_; rintro e w5 ⟨v5, rfl, ho5, hb5⟩; obtain ⟨a5, k5, rfl, hk51, hk52⟩ := ho5.reads.shape; have g5 : Below w1''.heap.size w1'' w5 := (below_drewN (Below.refl _ w1'') 1).trans hb5; have HO5 := Lib.hid ho5; have G5 := Lib.hid g5; have z5 := ((bcell g5).1 g 0 hgl).trans c0; clear ho5 hb5 g5)))
  all_goals
    have hq6 := HF1.out.fr T6.out id (fun _ h => h.elim)
    have hd6 := HD1.out.fr T6.out id
    have hp := hq6.putB (v := .slice q 0 kq) (y := []) (OB.of_owns T1.out)
    have hd7 := hd6.fr hp.2 (fun e => hgh e.symm)
    have f7 : Fr (fun k => k = g) w (w6.setCell ⟨h, o + 1, none⟩ (.slice q 0 kq)) :=
      (F1.out.trans T6.out (fun _ _ h => h.elim)).trans hp.2 (fun k hk hh => by omega)
    have HP := Lib.hid hp.1
    have HD7 := Lib.hid hd7
    have HF7 := Lib.hid f7
    clear hq6 hd6 hp hd7 f7
    generalize w6.setCell ⟨h, o + 1, none⟩ (.slice q 0 kq) = w7 at *
    go_wp2_with fail
    have hr := qresult_any w7 (-1)
    have hs2' : (!decide ((-1 : Int) = 0)) = true := by decide
    have hs4' : stepE (-1) = 0 := by decide
    rw [hs2', hs4'] at hr
    refine hr.mono ?_
    rintro e w8 ⟨rfl, rfl⟩
    go_wp2_with fail
    go_ret
    exact ⟨rfl, h, o, cap, by omega, hcap, HD7.out, HP.out, HF7.out⟩
end Go.Proofs.YtpnlcogbahjnoaaGreat.F

namespace Go.Proofs.YtpnlcogbahjnoaaGreat.F
open Go.RowKit Go.Proofs.YtpnlcogbahjnoaaGreat.M
set_option linter.unusedVariables false

set_option maxRecDepth 100000 in
set_option maxHeartbeats 1000000 in
theorem qsyn (w : World) (g h o cap : Nat) (st fu : Int) (hd : QD w g (.slice (some ⟨h, o, none⟩) 1 cap) st fu false) (hcap : 1 ≤ cap) (s : ByteArray) (x : List UInt8) (l : Nat) (hf : QFile w h o s x l)
    (hl : x.length ≤ 1099511627776) (h1 : 0 ≤ st) (h2 : st ≤ 1000000) (h4 : fu ≤ 9223372036854775807) :
    Calls Tryz.prog 30 #[.pointer (some ⟨g, 0, none⟩), .string s] w fun e w' => e = .returned (.int .i64 (stepE fu)) ∧ QD w' g (.slice (some ⟨h, o, none⟩) 1 cap) (st + 1) (stepF fu) (decide (fu = 0)) ∧ QFile w' h o s x (syncL fu l x.length) ∧ Fr (fun k => k = g ∨ k = h) w w' := by
  obtain ⟨c0, -, -, c3⟩ := hd.cells
  have HD := Lib.hid hd
  have HF := Lib.hid hf
  clear hd hf
  go_enter Tryz.func30, Tryz.ntmps30
  go_wp2_with fail
  refine (qfind_one w g h o cap _ _ _ HD.out hcap s x l HF.out).mono ?_
  rintro e w ⟨rfl, rfl⟩
  go_wp2_with fail
  refine (qstep_any w g _ st fu HD.out h1 (by omega) h4).mono ?_
  rintro e w1 ⟨rfl, hd1, f1⟩
  have hgh : ¬ h = g := tag_ne HF.out.tag HD.out.tag (by decide)
  have ntg : ∀ k, k = g → ¬ Tag w k 5 := by rintro k rfl; exact Tag.not HD.out (by decide)
  have hf1 := HF.out.fr f1 hgh ntg
  have HD1 := Lib.hid hd1
  have HF1 := Lib.hid hf1
  have F1 := Lib.hid f1
  clear hd1 hf1 f1 c0 c3 ntg
  have hr := fun w => qresult_any w fu
  by_cases h0 : fu = 0
  · have e2 : (!decide (fu = 0)) = false := by simp [h0]
    have e3 : syncL fu l x.length = l := if_pos h0
    rw [e2] at hr
    rw [e2]
    have E3 := Lib.hid e3
    clear e3 h0
    go_wp2_with fail
    refine (hr w1).mono ?_
    rintro e w8 ⟨rfl, rfl⟩
    go_wp2_with fail
    go_ret
    exact ⟨rfl, HD1.out, by rw [E3.out]; exact HF1.out, F1.out.mono (fun _ _ h => .inl h)⟩
  · have e2 : (!decide (fu = 0)) = true := by simp [h0]
    have e3 : syncL fu l x.length = x.length := if_neg h0
    rw [e2] at hr
    rw [e2]
    have E3 := Lib.hid e3
    clear e3 h0
    obtain ⟨c0, -, -, -⟩ := HD1.out.cells
    obtain ⟨bv, d0, d1, d2, e1, e2, hob⟩ := HF1.out.cells
    obtain ⟨ba, bcap, rfl, hbc, hbm⟩ := hob.1.shape
    have hp := HF1.out.putL x.length
    have HP := Lib.hid hp
    clear hob d0 hp
    go_upto_region 8 with fail
    go_region
    have hfr := HP.out.2.trans ((Fr.refl (fun _ => False) _).drew) (fun _ _ h => h.elim)
    have hq7 := HP.out.1.fr ((Fr.refl (fun _ => False) _).drew) id (fun _ h => h.elim)
    have hd7 := HD1.out.fr hfr (fun e => hgh e.symm)
    have f7 := (F1.out.mono (S' := fun k => k = g ∨ k = h) (fun _ _ h => .inl h)).trans hfr (fun _ _ h => .inr h)
    have HP7 := Lib.hid hq7
    have HD7 := Lib.hid hd7
    have HF7 := Lib.hid f7
    clear hfr hq7 hd7 f7 HP
    generalize (w1.setCell ⟨h, o + 2, none⟩ (.int .i64 x.length)).drew = w7 at *
    go_wp2_with fail
    refine (hr w7).mono ?_
    rintro e w8 ⟨rfl, rfl⟩
    go_wp2_with fail
    go_ret
    exact ⟨rfl, HD7.out, by rw [E3.out]; exact HP7.out, HF7.out⟩

set_option maxRecDepth 100000 in
set_option maxHeartbeats 1000000 in
theorem qread (w : World) (g h o cap : Nat) (st fu : Int) (dead : Bool) (hd : QD w g (.slice (some ⟨h, o, none⟩) 1 cap) st fu dead) (hcap : 1 ≤ cap) (s : ByteArray) (x : List UInt8) (l : Nat) (hf : QFile w h o s x l)
    (hl : x.length ≤ 1099511627776) :
    Calls Tryz.prog 40 #[.pointer (some ⟨g, 0, none⟩), .string s] w fun e w' => ∃ v, e = .returned (.tuple #[v, .bool true]) ∧ Owns w' w.heap.size 5 1 v x.length (x.map M.u8) ∧ Below w.heap.size w w' := by
  obtain ⟨c0, -, -, -⟩ := hd.cells
  have HD := Lib.hid hd
  have HF := Lib.hid hf
  obtain ⟨bv, d0, d1, d2, e1, e2, hob⟩ := hf.cells
  obtain ⟨ba, bcap, rfl, hbc, hbm⟩ := hob.1.shape
  have HOB := Lib.hid hob
  clear hd hf hob d0 d2 e1 e2
  go_enter Tryz.func40, Tryz.ntmps40
  go_wp2_with fail
  refine (qfind_one w g h o cap _ _ _ HD.out hcap s x l HF.out).mono ?_
  rintro e w ⟨rfl, rfl⟩
  go_wp2_with fail
  refine (copy_any w _ x HOB.out.1 hl).mono ?_
  rintro e w1 ⟨v, rfl, ho, hb⟩
  obtain ⟨a, k, rfl, -, -⟩ := ho.reads.shape
  have HO := Lib.hid ho
  clear ho
  go_wp2_with fail
  go_ret2
  exact ⟨_, rfl, HO.out, hb⟩

theorem QFile.below {w w' : World} {h o : Nat} {s : ByteArray} {x : List UInt8} {l : Nat} (hq : QFile w h o s x l) (hb : Below w.heap.size w w') : QFile w' h o s x l := hq.fr (Fr.of_below (S := fun _ => False) hb) id (fun _ h => h.elim)
set_option maxRecDepth 100000 in
set_option maxHeartbeats 2000000 in
theorem qtrunc (w : World) (g h o cap : Nat) (st : Int) (hd : QD w g (.slice (some ⟨h, o, none⟩) 1 cap) st (-1) false) (hcap : 1 ≤ cap) (s : ByteArray) (x : List UInt8) (l : Nat) (hf : QFile w h o s x l) (n : Nat) (hn : n ≤ x.length) (hln : n ≤ l)
    (hl : x.length ≤ 1099511627776) (hl2 : l ≤ 1099511627776) (h1 : 0 ≤ st) (h2 : st ≤ 1000000) :
    Calls Tryz.prog 42 #[.pointer (some ⟨g, 0, none⟩), .string s, .int .i64 n] w fun e w' => e = .returned (.int .i64 0) ∧ QD w' g (.slice (some ⟨h, o, none⟩) 1 cap) (st + 1) (-1) false ∧ QFile w' h o s (x.take n) n ∧ Fr (fun k => k = g ∨ k = h) w w' := by
  obtain ⟨c0, -, -, c3⟩ := hd.cells
  obtain ⟨bv, d0, d1, d2, e1, e2, hob⟩ := hf.cells
  obtain ⟨ba, bcap, rfl, hbc, hbm⟩ := hob.1.shape
  have HD := Lib.hid hd
  have HF := Lib.hid hf
  clear hd hf d0 d2 e1 e2 hob
  go_enter Tryz.func42, Tryz.ntmps42
  go_wp2_with fail
  refine (qfind_one w g h o cap _ _ _ HD.out hcap s x l HF.out).mono ?_
  rintro e w ⟨rfl, rfl⟩
  go_wp2_with fail
  refine (qstep_any w g _ st (-1) HD.out h1 (by omega) (by omega)).mono ?_
  rintro e w1 ⟨rfl, hd1, f1⟩
  have hs1' : stepF (-1) = -1 := by decide
  have hs2' : (!decide ((-1 : Int) = 0)) = true := by decide
  have hs3' : decide ((-1 : Int) = 0) = false := by decide
  have hs4' : stepE (-1) = 0 := by decide
  have hr := fun w => qresult_any w (-1)
  rw [hs2', hs4'] at hr
  rw [hs1', hs3'] at hd1
  rw [hs2']
  have hgh : ¬ h = g := tag_ne HF.out.tag HD.out.tag (by decide)
  have ntg : ∀ k, k = g → ¬ Tag w k 5 := by rintro k rfl; exact Tag.not HD.out (by decide)
  have hf1 := HF.out.fr f1 hgh ntg
  have HD1 := Lib.hid hd1
  have HF1 := Lib.hid hf1
  have F1 := Lib.hid f1
  clear hd1 hf1 f1 c0 c3 d1 ntg hs1' hs2' hs3' hs4' hbc hbm
  obtain ⟨c0, -, -, -⟩ := HD1.out.cells
  obtain ⟨bv, d0, d1, d2, e1, e2, hob⟩ := HF1.out.cells
  obtain ⟨ba, bcap, rfl, hbc, hbm⟩ := hob.1.shape
  have HOB := Lib.hid (bytes_upto hob.1 n hn)
  have hgl := lt_of_obj HD1.out
  have hhl := HF1.out.tag.lt
  have hln2 : (x.take n).length = n := by simp; omega
  have HLN := Lib.hid hln2
  have hnc : n ≤ bcap := by omega
  clear hob d0 hln2
  go_upto_region 10 with fail
  go_region_law ((first | (go_simp; go_at_call 35; refine (copy_any _ _ (x.take n) (Reads.below HOB.out (below_drewN (Below.refl _ w1) 1)) (by have := HLN.out; omega)).mono ?_; rintro e w5 ⟨v5, rfl, ho5, hb5⟩; rw [HLN.out] at ho5; obtain ⟨a5, k5, rfl, hk51, hk52⟩ := ho5.reads.shape; have g5 : Below w1.heap.size w1 w5 := (below_drewN (Below.refl _ w1) 1).trans hb5; have HO5 := Lib.hid ho5; have G5 := Lib.hid g5; have z5 := ((bcell g5).1 g 0 hgl).trans c0; have y5 := ((bcell g5).1 h (o + 1) hhl).trans d1; have n5 := ((bcell g5).2 h (o + 1) hhl).trans e1; clear ho5 hb5 g5)))
  all_goals
    have hq5 := HF1.out.below G5.out
    have hd5 := HD1.out.fr (Fr.of_below (S := fun _ => False) G5.out) id
    have hp := hq5.putB (v := .slice a5 n k5) (y := x.take n) (OB.of_owns HO5.out)
    have hd6 := hd5.fr hp.2 (fun e => hgh e.symm)
    have f6 : Fr (fun k => k = g ∨ k = h) w (w5.setCell ⟨h, o + 1, none⟩ (.slice a5 n k5)) :=
      ((F1.out.mono (S' := fun k => k = g ∨ k = h) (fun _ _ h => .inl h)).trans (Fr.of_below (S := fun _ => False) G5.out) (fun _ _ h => h.elim)).trans hp.2 (fun _ _ h => .inr h)
    have HP := Lib.hid hp.1
    have HD6 := Lib.hid hd6
    have HF6 := Lib.hid f6
    clear hq5 hd5 hp hd6 f6 c0 d1 d2 e1 e2 z5 y5 n5
    generalize w5.setCell ⟨h, o + 1, none⟩ (.slice a5 n k5) = w6 at *
    obtain ⟨c0, -, -, -⟩ := HD6.out.cells
    obtain ⟨bv, d0, d1, d2, e1, e2, hob⟩ := HP.out.cells
    have hmin : min (l : Int) (n : Int) = n := by omega
    have hpl := HP.out.putL n
    have HPL := Lib.hid hpl
    clear d0 d1 e1 hob hpl
    go_upto_region 11 with fail
    go_region
    have hfr := HPL.out.2.trans ((Fr.refl (fun _ => False) _).drew) (fun _ _ h => h.elim)
    have hq7 := HPL.out.1.fr ((Fr.refl (fun _ => False) _).drew) id (fun _ h => h.elim)
    have hd7 := HD6.out.fr hfr (fun e => hgh e.symm)
    have f7 := HF6.out.trans hfr (fun _ _ h => .inr h)
    have HP7 := Lib.hid hq7
    have HD7 := Lib.hid hd7
    have HF7 := Lib.hid f7
    clear hfr hq7 hd7 f7 HPL
    generalize (w6.setCell ⟨h, o + 2, none⟩ (.int .i64 n)).drew = w7 at *
    go_wp2_with fail
    refine (hr w7).mono ?_
    rintro e w8 ⟨rfl, rfl⟩
    go_wp2_with fail
    go_ret
    exact ⟨rfl, HD7.out, HP7.out, HF7.out⟩
end Go.Proofs.YtpnlcogbahjnoaaGreat.F
