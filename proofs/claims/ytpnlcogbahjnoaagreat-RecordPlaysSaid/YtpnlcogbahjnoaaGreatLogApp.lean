/- (*record.Log).Append. Conditions stand at each theorem. -/
import Derived.Test.YtpnlcogbahjnoaaGreatLog
import Derived.Deep.RegionLaw
namespace Go.Proofs.YtpnlcogbahjnoaaGreat.F
open Go.RowKit Go.Proofs.YtpnlcogbahjnoaaGreat.M
set_option linter.unusedVariables false

/-- block p is a log at disk f whose file is s; its records are lv's -/
def LogV (w : World) (base p f : Nat) (s : ByteArray) (lv : Value) (rs : List (List UInt8)) : Prop :=
  base ≤ p ∧ w.heap[p]? = some (.cells #[.pointer (some ⟨f, 0, none⟩), .string s, lv] 61 (0, 0)) ∧ ORecs w base lv rs
theorem LogAt.v {w : World} {base p f : Nat} {s : ByteArray} {rs : List (List UInt8)} (h : LogAt w base p f s rs) : ∃ lv, LogV w base p f s lv rs := by
  obtain ⟨h1, lv, h2, h3⟩ := h
  exact ⟨lv, h1, h2, h3⟩
theorem LogV.at_ {w : World} {base p f : Nat} {s : ByteArray} {lv : Value} {rs : List (List UInt8)} (h : LogV w base p f s lv rs) : LogAt w base p f s rs := ⟨h.1, lv, h.2.1, h.2.2⟩
/-- the blocks that a log's Append may turn -/
def LSv (f b p : Nat) (lv : Value) (k : Nat) : Prop := (k = f ∨ k = b) ∨ k = p ∨ lv.ownBlock = some k
theorem LogV.base_le {w : World} {base p f b : Nat} {s : ByteArray} {lv : Value} {rs : List (List UInt8)} (h : LogV w base p f s lv rs) (hf : base ≤ f) (hb : base ≤ b) : ∀ k, LSv f b p lv k → base ≤ k := by
  rintro k ((rfl | rfl) | rfl | hk)
  · exact hf
  · exact hb
  · exact h.1
  · exact (h.2.2.tag hk).2

/-- 'step_append_owns_g', and where the block lies -/
theorem step_append_owns_h {P : Program} {w : World} {ops : Array Oper} {o : Oper} {a : Act} {K : Act → World → Prop} {Q : Exit → Act → World → Prop} {E : Prop} (hw : Region.wanted o (yielded ops a.tmps) = true) (s x : Operand) (t : TypeId)
    (ho : o.op = .call { callee := .builtin .append, args := #[s, x], argTypes := #[t, t] })
    (base : Nat) (e : TypeId) (i : TypeInfo) (z : Value) (size bytes : Nat) (ht : P.underlying t = some (.slice e)) (hi : P.info? e = some i) (hz : i.zero = some z)
    (hsize : i.size = size) (hby : i.bytes = bytes) (hzs : z.cells.size = size)
    (v : Value) (n : Nat) (xs : List Value) (hs : a.eval s = v) (hown : Owns w base e size v n xs)
    (y : Value) (m : Nat) (ys : List Value) (hx : a.eval x = y) (hr : Reads w size y m ys) (h1 : ∀ u ∈ ys, u.oneCell' = true)
    (N : Nat) (hN : n + m = N) (zs : List Value) (hzl : xs ++ ys = zs) (h63 : N ≤ 9223372036854775807) (hbytes : N * bytes ≤ 140737488355328) (hbase : base ≤ w.heap.size)
    (h : ∀ (q : Option Addr) (cap : Nat) w', Owns w' base e size (.slice q N cap) N zs → N ≤ cap → cap ≤ 9223372036854775807 → w.grownBy w' v.ownBlock → (∀ p, q = some p → v.ownBlock = some p.block ∨ w.heap.size ≤ p.block) → K (a.put o.dst (.slice q N cap)) w') :
    if Region.wanted o (yielded ops a.tmps) = true then Oper.wp P o a w K Q else E := by
  subst hN hzl
  obtain ⟨q, cap, w', hrun, h2, h3, h4⟩ := run_append_owns (P := P) w base t o.type e i z size bytes ht hi hz hsize hby hzs v n xs hown y m ys hr h1 (by simp only [maxLen]; omega) hbytes hbase
  obtain ⟨q', cap', he, h5, h6⟩ := h2.reads.shape
  cases he
  rw [if_pos hw]
  unfold Oper.wp execOp
  simp only [ho, resolve, invoke, builtin, Sem.run_bind, Sem.run_pure, Result.andThen_ok, List.map_toArray, List.map_cons, List.map_nil, hs, hx, hrun]
  exact h q cap w' h2 h5 h6 h3 h4

set_option maxRecDepth 100000 in
set_option maxHeartbeats 2000000 in
theorem logapp_dead1 (w : World) (base p f b m : Nat) (st : Int) (k x : List UInt8) (l : Nat) (hF : Files w f b m (one k x l) st 0 false) (s : ByteArray) (hk : s.data.toList = k) (hn : named k = true) (lv : Value) (rs : List (List UInt8)) (h : LogV w base p f s lv rs) (hbase : base ≤ w.heap.size)
    (v : Value) (new : List (List UInt8)) (hv : Hid (∀ w', Fr (LSv f b p lv) w w' → Recs w' v new)) (hne : new ≠ []) (hb : (body new).length ≤ 1048576) (hx : x.length ≤ 1073741824) (hrl : rs.length ≤ 1073741824) (hm : m ≤ 1000000) (h1 : 0 ≤ st) (h2 : st ≤ 1000000) :
    Calls Tryz.prog 12 #[.pointer (some ⟨p, 0, none⟩), v] w fun e w' => e = .returned (.int .i64 7) ∧ Files w' f b (m + 1) (one k (x ++ frame (body new)) l) (st + 1) (stepF 0) true ∧ Fr (fun k => k = f ∨ k = b) w w' := by
  have hs := (size_of_named hk hn).2
  obtain ⟨hbp, z, hor⟩ := h
  have hv0 := hv.out w (Fr.refl _ _)
  obtain ⟨va, vcap, rfl, hvc, hvm⟩ := hv0.shape
  have hnl : ¬ new.length = 0 := fun e => hne (List.eq_nil_of_length_eq_zero e)
  have hnl' : ¬ ((new.length : Int) = 0) := by omega
  have c0 := cell_at z 0
  have c1 := cell_at z 1
  simp at c0 c1
  have HF := Lib.hid hF
  have HZ := Lib.hid z
  have HV := Lib.hid hv0
  have HOR := Lib.hid hor
  have hE : stepE 0 = 7 := rfl
  clear hF z hv0 hor
  go_enter Tryz.func12, Tryz.ntmps12
  go_wp2_with fail
  refine (recframe_any w _ new HV.out hb).mono ?_
  rintro e w1 ⟨v1, rfl, ho1, hb1⟩
  obtain ⟨a1, k1, rfl, -, -⟩ := ho1.reads.shape
  have hfl := frame_len (body new)
  have HBY : Hid (Bytes w1 (.slice a1 ((body new).length + 12) k1) (frame (body new))) := Lib.hid (Bytes.of_owns ho1)
  have HF1 := Lib.hid (HF.out.below hb1)
  have z1 := (hb1.block p (lt_of_obj HZ.out)).trans HZ.out
  have d0 := cell_at z1 0
  have d1 := cell_at z1 1
  simp at d0 d1
  have HB1 := Lib.hid hb1
  have HNP : Hid (¬ (p = f ∨ p = b)) := Lib.hid (fun hh => files_apart HF1.out 61 (by decide) p hh ⟨_, _, z1⟩)
  clear ho1 hb1 c0 c1 z1
  go_upto_region 8 with fail
  go_region_held3 (fun w' => w'.cell? ⟨p, 0, none⟩ = some (.pointer (some ⟨f, 0, none⟩)) ∧ w'.cell? ⟨p, 1, none⟩ = some (.string s)) (simp [*]) (first | (go_at_call 25; refine (app_f _ f b m st 0 k x l (HF1.out.below (below_drewN (Below.refl _ w1) 1)) s hk hn _ (frame (body new)) (Reads.below HBY.out (below_drewN (Below.refl _ w1) 1)) (by omega) (by omega) h1 (by omega) (by omega)).mono ?_; rintro e w2 ⟨rfl, h3, f3⟩; have g3 : Fr (fun k => k = f ∨ k = b) w1 w2 := Fr.trans (S' := fun k => k = f ∨ k = b) (Fr.of_below (below_drewN (Below.refl _ w1) 1)) f3 (fun _ _ h => h); have q0 := g3.cell_some d0 HNP.out; have q1 := g3.cell_some d1 HNP.out; have H3 := Lib.hid h3; have F3 := Lib.hid g3; clear h3 f3 g3))
  go_wp2_with fail
  go_ret
  exact ⟨rfl, H3.out, (Fr.of_below (S := fun k => k = f ∨ k = b) HB1.out).trans F3.out (fun _ _ h => h)⟩
set_option maxRecDepth 100000 in
set_option maxHeartbeats 2000000 in
theorem logapp_dead2 (w : World) (base p f b m : Nat) (st : Int) (k x : List UInt8) (l : Nat) (hF : Files w f b m (one k x l) st 1 false) (s : ByteArray) (hk : s.data.toList = k) (hn : named k = true) (lv : Value) (rs : List (List UInt8)) (h : LogV w base p f s lv rs) (hbase : base ≤ w.heap.size)
    (v : Value) (new : List (List UInt8)) (hv : Hid (∀ w', Fr (LSv f b p lv) w w' → Recs w' v new)) (hne : new ≠ []) (hb : (body new).length ≤ 1048576) (hx : x.length ≤ 1073741824) (hrl : rs.length ≤ 1073741824) (hm : m ≤ 1000000) (h1 : 0 ≤ st) (h2 : st ≤ 1000000) :
    Calls Tryz.prog 12 #[.pointer (some ⟨p, 0, none⟩), v] w fun e w' => e = .returned (.int .i64 7) ∧ Files w' f b (m + 2) (one k (x ++ frame (body new)) l) (st + 2) (stepF 0) true ∧ Fr (fun k => k = f ∨ k = b) w w' := by
  have hs := (size_of_named hk hn).2
  obtain ⟨hbp, z, hor⟩ := h
  have hv0 := hv.out w (Fr.refl _ _)
  obtain ⟨va, vcap, rfl, hvc, hvm⟩ := hv0.shape
  have hnl : ¬ new.length = 0 := fun e => hne (List.eq_nil_of_length_eq_zero e)
  have hnl' : ¬ ((new.length : Int) = 0) := by omega
  have c0 := cell_at z 0
  have c1 := cell_at z 1
  simp at c0 c1
  have HF := Lib.hid hF
  have HZ := Lib.hid z
  have HV := Lib.hid hv0
  have HOR := Lib.hid hor
  have hE : stepE 1 = 0 := rfl
  clear hF z hv0 hor
  go_enter Tryz.func12, Tryz.ntmps12
  go_wp2_with fail
  refine (recframe_any w _ new HV.out hb).mono ?_
  rintro e w1 ⟨v1, rfl, ho1, hb1⟩
  obtain ⟨a1, k1, rfl, -, -⟩ := ho1.reads.shape
  have hfl := frame_len (body new)
  have HBY : Hid (Bytes w1 (.slice a1 ((body new).length + 12) k1) (frame (body new))) := Lib.hid (Bytes.of_owns ho1)
  have HF1 := Lib.hid (HF.out.below hb1)
  have z1 := (hb1.block p (lt_of_obj HZ.out)).trans HZ.out
  have d0 := cell_at z1 0
  have d1 := cell_at z1 1
  simp at d0 d1
  have HB1 := Lib.hid hb1
  have HNP : Hid (¬ (p = f ∨ p = b)) := Lib.hid (fun hh => files_apart HF1.out 61 (by decide) p hh ⟨_, _, z1⟩)
  clear ho1 hb1 c0 c1 z1
  go_upto_region 8 with fail
  go_region_held3 (fun w' => w'.cell? ⟨p, 0, none⟩ = some (.pointer (some ⟨f, 0, none⟩)) ∧ w'.cell? ⟨p, 1, none⟩ = some (.string s)) (simp [*]) (first | (go_at_call 25; refine (app_f _ f b m st 1 k x l (HF1.out.below (below_drewN (Below.refl _ w1) 1)) s hk hn _ (frame (body new)) (Reads.below HBY.out (below_drewN (Below.refl _ w1) 1)) (by omega) (by omega) h1 (by omega) (by omega)).mono ?_; rintro e w2 ⟨rfl, h3, f3⟩; have e1 : decide ((1 : Int) = 0) = false := rfl; have e2 : stepF 1 = 0 := rfl; rw [e1, e2] at h3; have g3 : Fr (fun k => k = f ∨ k = b) w1 w2 := Fr.trans (S' := fun k => k = f ∨ k = b) (Fr.of_below (below_drewN (Below.refl _ w1) 1)) f3 (fun _ _ h => h); have q0 := g3.cell_some d0 HNP.out; have q1 := g3.cell_some d1 HNP.out; have H3 := Lib.hid h3; have F3 := Lib.hid g3; clear h3 f3 g3))
  have hE2 : stepE 0 = 7 := rfl
  clear d0 d1
  go_upto_region 11 with fail
  go_region_held3 (fun w' => w'.cell? ⟨p, 0, none⟩ = some (.pointer (some ⟨f, 0, none⟩)) ∧ w'.cell? ⟨p, 1, none⟩ = some (.string s)) (simp [*]) (first | (go_at_call 26; refine (syn_f _ f b (m + 1) (st + 1) 0 k (x ++ frame (body new)) l (H3.out.below (below_drewN (Below.refl _ w2) 1)) s hk hn (by omega) (by omega) (by omega) (by omega)).mono ?_; rintro e w3 ⟨rfl, h4, f4⟩; have e3 : decide ((0 : Int) = 0) = true := rfl; have e4 : ∀ l n, syncL 0 l n = l := fun _ _ => rfl; rw [e3, e4] at h4; have g4 : Fr (fun k => k = f ∨ k = b) w2 w3 := Fr.trans (S' := fun k => k = f ∨ k = b) (Fr.of_below (below_drewN (Below.refl _ w2) 1)) f4 (fun _ _ h => h); have r0 := g4.cell_some q0 HNP.out; have r1 := g4.cell_some q1 HNP.out; have H4 := Lib.hid h4; have F4 := Lib.hid g4; clear h4 f4 g4))
  go_wp2_with fail
  go_ret
  have es : st + 1 + 1 = st + 2 := by omega
  have H4 := H4.out
  rw [es] at H4
  exact ⟨rfl, H4, ((Fr.of_below (S := fun k => k = f ∨ k = b) HB1.out).trans F3.out (fun _ _ h => h)).trans F4.out (fun _ _ h => h)⟩
set_option maxRecDepth 100000 in
set_option maxHeartbeats 2000000 in
theorem logapp_ok (w : World) (base p f b m : Nat) (st : Int) (k x : List UInt8) (l : Nat) (fu : Int) (hfu : fu ≠ 0) (hfu2 : stepF fu ≠ 0) (hfu4 : fu ≤ 9223372036854775807) (hF : Files w f b m (one k x l) st fu false) (s : ByteArray) (hk : s.data.toList = k) (hn : named k = true) (lv : Value) (rs : List (List UInt8)) (h : LogV w base p f s lv rs) (hbase : base ≤ w.heap.size)
    (v : Value) (new : List (List UInt8)) (hv : Hid (∀ w', Fr (LSv f b p lv) w w' → Recs w' v new)) (hne : new ≠ []) (hb : (body new).length ≤ 1048576) (hx : x.length ≤ 1073741824) (hrl : rs.length ≤ 1073741824) (hm : m ≤ 1000000) (h1 : 0 ≤ st) (h2 : st ≤ 1000000) :
    Calls Tryz.prog 12 #[.pointer (some ⟨p, 0, none⟩), v] w fun e w' => e = .returned (.int .i64 0) ∧ Files w' f b (m + 2) (one k (x ++ frame (body new)) (x ++ frame (body new)).length) (st + 2) (stepF (stepF fu)) false ∧ (∃ lv', LogV w' base p f s lv' (rs ++ new) ∧ ∀ g, lv'.ownBlock = some g → g < w.heap.size → lv.ownBlock = some g) ∧ Fr (LSv f b p lv) w w' := by
  have hs := (size_of_named hk hn).2
  obtain ⟨hbp, z, hor⟩ := h
  have hv0 := hv.out w (Fr.refl _ _)
  obtain ⟨va, vcap, rfl, hvc, hvm⟩ := hv0.shape
  have hnl : ¬ new.length = 0 := fun e => hne (List.eq_nil_of_length_eq_zero e)
  have hnl' : ¬ ((new.length : Int) = 0) := by omega
  have c0 := cell_at z 0
  have c1 := cell_at z 1
  simp at c0 c1
  have HF := Lib.hid hF
  have HZ := Lib.hid z
  have HV := Lib.hid hv0
  have HOR := Lib.hid hor
  have hE : stepE fu = 0 := if_neg hfu
  have hD : decide (fu = 0) = false := decide_eq_false hfu
  have HDD := Lib.hid hD
  clear hD
  clear hF z hv0 hor
  go_enter Tryz.func12, Tryz.ntmps12
  go_wp2_with fail
  refine (recframe_any w _ new HV.out hb).mono ?_
  rintro e w1 ⟨v1, rfl, ho1, hb1⟩
  obtain ⟨a1, k1, rfl, -, -⟩ := ho1.reads.shape
  have hfl := frame_len (body new)
  have HBY : Hid (Bytes w1 (.slice a1 ((body new).length + 12) k1) (frame (body new))) := Lib.hid (Bytes.of_owns ho1)
  have HF1 := Lib.hid (HF.out.below hb1)
  have z1 := (hb1.block p (lt_of_obj HZ.out)).trans HZ.out
  have d0 := cell_at z1 0
  have d1 := cell_at z1 1
  simp at d0 d1
  have HB1 := Lib.hid hb1
  have HNP : Hid (¬ (p = f ∨ p = b)) := Lib.hid (fun hh => files_apart HF1.out 61 (by decide) p hh ⟨_, _, z1⟩)
  clear ho1 hb1 c0 c1 z1
  go_upto_region 8 with fail
  go_region_held3 (fun w' => w'.cell? ⟨p, 0, none⟩ = some (.pointer (some ⟨f, 0, none⟩)) ∧ w'.cell? ⟨p, 1, none⟩ = some (.string s)) (simp [*]) (first | (go_at_call 25; refine (app_f _ f b m st fu k x l (HF1.out.below (below_drewN (Below.refl _ w1) 1)) s hk hn _ (frame (body new)) (Reads.below HBY.out (below_drewN (Below.refl _ w1) 1)) (by omega) (by omega) h1 (by omega) hfu4).mono ?_; rintro e w2 ⟨rfl, h3, f3⟩; rw [HDD.out] at h3; have g3 : Fr (fun k => k = f ∨ k = b) w1 w2 := Fr.trans (S' := fun k => k = f ∨ k = b) (Fr.of_below (below_drewN (Below.refl _ w1) 1)) f3 (fun _ _ h => h); have q0 := g3.cell_some d0 HNP.out; have q1 := g3.cell_some d1 HNP.out; have H3 := Lib.hid h3; have F3 := Lib.hid g3; clear h3 f3 g3))
  have hE2 : stepE (stepF fu) = 0 := if_neg hfu2
  have HDD2 : Hid (decide (stepF fu = 0) = false) := Lib.hid (decide_eq_false hfu2)
  have HSL : Hid (syncL (stepF fu) l (x ++ frame (body new)).length = (x ++ frame (body new)).length) := Lib.hid (if_neg hfu2)
  have hf5 : stepF fu ≤ 9223372036854775807 := by unfold stepF; split <;> omega
  clear d0 d1
  go_upto_region 11 with fail
  go_region_held3 (fun w' => w'.cell? ⟨p, 0, none⟩ = some (.pointer (some ⟨f, 0, none⟩)) ∧ w'.cell? ⟨p, 1, none⟩ = some (.string s)) (simp [*]) (first | (go_at_call 26; refine (syn_f _ f b (m + 1) (st + 1) (stepF fu) k (x ++ frame (body new)) l (H3.out.below (below_drewN (Below.refl _ w2) 1)) s hk hn (by omega) (by omega) (by omega) hf5).mono ?_; rintro e w3 ⟨rfl, h4, f4⟩; rw [HDD2.out, HSL.out] at h4; have g4 : Fr (fun k => k = f ∨ k = b) w2 w3 := Fr.trans (S' := fun k => k = f ∨ k = b) (Fr.of_below (below_drewN (Below.refl _ w2) 1)) f4 (fun _ _ h => h); have r0 := g4.cell_some q0 HNP.out; have r1 := g4.cell_some q1 HNP.out; have H4 := Lib.hid h4; have F4 := Lib.hid g4; clear h4 f4 g4))
  clear q0 q1 r0 r1
  have G3 : Hid (Fr (fun k => k = f ∨ k = b) w w3) := Lib.hid (((Fr.of_below (S := fun k => k = f ∨ k = b) HB1.out).trans F3.out (fun _ _ h => h)).trans F4.out (fun _ _ h => h))
  have es : st + 1 + 1 = st + 2 := by omega
  have H4' := H4.out
  rw [es] at H4'
  have H5 := Lib.hid H4'
  have hnw : ¬ (p = f ∨ p = b) := HNP.out
  have L3 : Hid (LogV w3 base p f s lv rs) := Lib.hid ⟨hbp, G3.out.obj HZ.out hnw, HOR.out.fr G3.out (fun g hg => ⟨files_apart HF.out _ (by decide) g hg, files_apart HF.out _ (by decide) g hg⟩)⟩
  clear H4' es H4 hnw
  obtain ⟨i, hi, hz0, hz1, hz2⟩ := info_parts info23
  have Hi := Lib.hid hi
  have Hz0 := Lib.hid hz0
  have Hz1 := Lib.hid hz1
  have Hz2 := Lib.hid hz2
  clear hi hz0 hz1 hz2
  have hencl : (encRecs new).length ≤ 1048576 := by
    have hbl : (body new).length = (encNum new.length).length + (encRecs new).length := by simp [body]
    omega
  have hnew := recs_le new
  go_wp2_with fail
  go_loopg [58] new.length (fun g s58 wr => ∃ (j : Nat) (lj : Value), j ≤ new.length ∧ g + j = new.length ∧ s58 = .int .i64 j ∧ Hid (LogV wr base p f s lj (rs ++ new.take j)) ∧ Hid (Files wr f b (m + 1 + 1) (one k (x ++ frame (body new)) (x ++ frame (body new)).length) (st + 2) (stepF (stepF fu)) false) ∧ Hid (Fr (LSv f b p lv) w wr) ∧ Hid (∀ g, lj.ownBlock = some g → g < w.heap.size → lv.ownBlock = some g))
  case atStart => exact ⟨0, lv, by omega, by omega, rfl, by simpa using L3, H5, Lib.hid (G3.out.mono (fun _ _ h => .inl h)), Lib.hid (fun g hg _ => hg)⟩
  case round =>
    obtain ⟨j, lj, hj, hkj, rfl, hlg, hfl2, hfr, hown⟩ := hrel
    by_cases hlt : j < new.length
    · obtain ⟨g, o, u, hix, hcell, hub, -⟩ := recs_ix (hv.out wr hfr.out) j hlt
      obtain ⟨ua, ucap, hue, hu1, hu2⟩ := hub.shape
      have hrj := rec_le new j hlt
      subst hue
      have HU := Lib.hid hub
      obtain ⟨-, zj, ho⟩ := hlg.out
      have c2 := cell_at zj 2
      have f2 := free_at zj 2
      simp at c2
      obtain ⟨la, lk, rfl, hlk1, hlk2⟩ := ho.shape
      have hllen : (rs ++ new.take j).length = rs.length + j := by simp; omega
      rw [hllen] at c2 hlk1
      have HOJ := Lib.hid ho
      have HZJ := Lib.hid zj
      clear hub ho zj
      generalize hrj' : new[j] = r at *
      obtain ⟨vs, hvs, hov⟩ := HOJ.out
      rw [hllen] at hvs
      have hown2 : Hid (∀ g, (Value.slice la (rs.length + j) lk).ownBlock = some g → g < w.heap.size → lv.ownBlock = some g) := Lib.hid (fun g hg => hown.out g (by rw [hllen]; exact hg))
      have HVS := Lib.hid hvs
      have HOV := Lib.hid hov
      have hpl := lt_of_obj HZJ.out
      have HTG : Hid (∀ g, (Value.slice la (rs.length + j) lk).ownBlock = some g → Tag wr g 52 ∧ base ≤ g) := Lib.hid (fun g hg => ORecs.tag (rs := rs ++ new.take j) (v := .slice la (rs.length + j) lk) ⟨vs, by rw [hllen]; exact hvs, hov⟩ hg)
      have HPN : Hid (some p ≠ (Value.slice la (rs.length + j) lk).ownBlock) := Lib.hid (fun hh => Tag.not HZJ.out (by decide) (HTG.out p hh.symm).1)
      clear hvs hov
      have hbl2 : base ≤ wr.heap.size := Nat.le_trans hbase hfr.out.size
      go_upto_region 17 with fail
      go_region_law ((first | (refine step_append_owns_h (by rfl) _ _ 39 rfl base 52 i (.slice none 0 0) 1 24 Tryz.underlying39 Hi.out Hz0.out Hz1.out Hz2.out rfl (.slice la (rs.length + j) lk) (rs.length + j) vs rfl (HVS.out.fr (((Fr.of_below (S := fun _ => False) G5.out)).alloc _) (fun _ _ => id)) _ 1 [.slice a5 r.length k5] rfl (Reads.one (heap_alloc_new w5 _)) (by simp [Value.oneCell']) (rs.length + j + 1) rfl (vs ++ [.slice a5 r.length k5]) rfl (by omega) (by omega) (Nat.le_trans hbl2 (Nat.le_trans G5.out.size (by simp))) ?_; intro q kq w6 t1 t2 t3 t4 t5; have y4 := grown_cell t4 (y3 _) HPN.out; have n4 := (grown_free t4 (o := 2) hp6 HPN.out).trans (n3 _); have T1 := Lib.hid t1; have T4 := Lib.hid t4; have T5 := Lib.hid t5; clear t1 t4 t5) | (go_simp; go_at_call 33; refine (clone_any _ _ r (HU.out.below (below_drewN (Below.refl _ wr) 1)) (by omega)).mono ?_; rintro e w5 ⟨v5, rfl, ho5, hb5⟩; obtain ⟨a5, k5, rfl, hk51, hk52⟩ := ho5.reads.shape; have g5 : Below wr.heap.size wr w5 := (below_drewN (Below.refl _ wr) 1).trans hb5; have y2 := ((bcell g5).1 p 2 hpl).trans c2; have n2 := ((bcell g5).2 p 2 hpl).trans f2; have hp5 : p < w5.heap.size := Nat.lt_of_lt_of_le hpl g5.size; have y3 := fun o : Obj => ((bcell ((Below.refl w5.heap.size w5).alloc (Nat.le_refl _) o)).1 p 2 hp5).trans y2; have hp6 : p < (w5.alloc (.cells #[.slice a5 r.length k5] 52)).heap.size := (by simp; omega); have n3 := fun o : Obj => ((bcell ((Below.refl w5.heap.size w5).alloc (Nat.le_refl _) o)).2 p 2 hp5).trans n2; have HO5 := Lib.hid ho5; have G5 := Lib.hid g5; clear ho5 hb5 g5)))
      all_goals
        have F5 : Fr (fun k => (Value.slice la (rs.length + j) lk).ownBlock = some k) wr w6 := Fr.trans (S := fun k => (Value.slice la (rs.length + j) lk).ownBlock = some k) (Fr.alloc (Fr.of_below G5.out) _) (Fr.of_grown (S := fun k => (Value.slice la (rs.length + j) lk).ownBlock = some k) T4.out (fun k hk _ => hk)) (fun _ _ h => h)
        have z6 := F5.obj HZJ.out (fun hh => HPN.out hh.symm)
        have o6 : OB w6 (.slice a5 r.length k5) r := (HO5.out.ob.below ((Below.refl _ _).alloc (Nat.le_refl _) _)).fr (Fr.of_grown (S := fun k => (Value.slice la (rs.length + j) lk).ownBlock = some k) T4.out (fun k hk _ => hk)) (fun g hg hh => by
          obtain ⟨cur, fz, hz⟩ := (HTG.out g hg).1
          have hz5 := ((Below.refl w5.heap.size w5).alloc (Nat.le_refl _) (.cells #[.slice a5 r.length k5] 52)).block g (Nat.lt_of_lt_of_le (lt_of_obj hz) G5.out.size) |>.trans ((G5.out.block g (lt_of_obj hz)).trans hz)
          exact Tag.not hz5 (by decide) hh)
        have hov6 := (HOV.out.fr F5 (fun g hg => by obtain ⟨cur, fz, hz⟩ := (HTG.out g hg).1; exact Tag.not hz (by decide))).append (OVals.one o6)
        have F7 : Fr (fun k => k = p) w6 (w6.setCell ⟨p, 2, none⟩ (.slice q (rs.length + j + 1) kq)) := Fr.setCell (Fr.refl _ _) _ _ (fun _ => rfl)
        have ntp : ∀ g, g = p → ¬ Tag w6 g 5 ∧ ¬ Tag w6 g 52 := by rintro g rfl; exact ⟨Tag.not z6 (by decide), Tag.not z6 (by decide)⟩
        have hlen' : (rs ++ new.take (j + 1)).length = rs.length + j + 1 := by simp; omega
        have etk : rs ++ new.take (j + 1) = (rs ++ new.take j) ++ [r] := by rw [List.take_succ_eq_append_getElem hlt, hrj', List.append_assoc]
        have or7 : ORecs (w6.setCell ⟨p, 2, none⟩ (.slice q (rs.length + j + 1) kq)) base (.slice q (rs.length + j + 1) kq) (rs ++ new.take (j + 1)) := by
          exact ORecs.fr ⟨vs ++ [.slice a5 r.length k5], by rw [hlen']; exact T1.out, by rw [etk]; exact hov6⟩ F7 ntp
        have z7 := heap_setCell_at z6 2 (.slice q (rs.length + j + 1) kq)
        have F8 : Fr (fun k => k = p ∨ (Value.slice la (rs.length + j) lk).ownBlock = some k) wr (w6.setCell ⟨p, 2, none⟩ (.slice q (rs.length + j + 1) kq)) := (F5.mono (S' := fun k => k = p ∨ (Value.slice la (rs.length + j) lk).ownBlock = some k) (fun _ _ h => .inr h)).trans F7 (fun _ _ h => .inl h)
        have hfiles := hfl2.out.fr F8 (by
            rintro (hh | hh)
            · exact HNP.out (.inl hh.symm)
            · exact files_apart hfl2.out 52 (by decide) f (.inl rfl) (HTG.out f hh).1) (by
            rintro (hh | hh)
            · exact HNP.out (.inr hh.symm)
            · exact files_apart hfl2.out 52 (by decide) b (.inr rfl) (HTG.out b hh).1) (by
            rintro g (rfl | hg)
            · exact Tag.not HZJ.out (by decide)
            · obtain ⟨cur, fz, hz⟩ := (HTG.out g hg).1
              exact Tag.not hz (by decide))
        have hfr' : Fr (LSv f b p lv) w (w6.setCell ⟨p, 2, none⟩ (.slice q (rs.length + j + 1) kq)) := hfr.out.trans F8 (by
          rintro k hk (hh | hh)
          · exact .inr (.inl hh)
          · exact .inr (.inr (hown2.out k hh hk)))
        have hown' : ∀ g, (Value.slice q (rs.length + j + 1) kq).ownBlock = some g → g < w.heap.size → lv.ownBlock = some g := by
          intro g hg hlt'
          cases q with
          | none => simp [Value.ownBlock] at hg
          | some q0 =>
            simp only [Value.ownBlock, Option.some.injEq] at hg
            rcases T5.out q0 rfl with hh | hh
            · rw [hg] at hh; exact hown2.out g hh hlt'
            · have y1 := hfr.out.size
              have y2' := G5.out.size
              simp at hh
              omega
        have L7 : Hid (LogV (w6.setCell ⟨p, 2, none⟩ (.slice q (rs.length + j + 1) kq)) base p f s (.slice q (rs.length + j + 1) kq) (rs ++ new.take (j + 1))) := Lib.hid ⟨hbp, by simpa using z7, or7⟩
        have HFILES := Lib.hid hfiles
        have HFR' := Lib.hid hfr'
        have HOWN' := Lib.hid hown'
        clear F5 z6 o6 hov6 F7 ntp or7 z7 F8 hfiles hfr' hown'
        go_wp2_with fail
        go_roundg (new.length - (j + 1))
        case measure => omega
        case rel => exact ⟨j + 1, _, by omega, by omega, by simp, L7, HFILES, HFR', HOWN'⟩
    · have hjn : j = new.length := by omega
      rw [hjn, List.take_length] at hlg
      go_wp2_with fail
      go_ret
      exact ⟨rfl, hfl2.out, ⟨lj, hlg.out, hown.out⟩, hfr.out⟩
end Go.Proofs.YtpnlcogbahjnoaaGreat.F
