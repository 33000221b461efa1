/- FileLasts answers true, walked. Conditions stand at each theorem. -/
import Derived.Test.YtpnlcogbahjnoaaOne
namespace Go.Proofs.Ytpnlcogbahjnoaa.F
open Go.RowKit Go.Proofs.Ytpnlcogbahjnoaa.M
set_option linter.unusedVariables false

/-- append as a step of a region that draws its order, behind a guard -/
theorem step_append_owns_g {P : Program} {w : World} {ops : Array Oper} {o : Oper} {a : Act} {K : Act → World → Prop} {Q : Exit → Act → World → Prop} {E : Prop} (hw : Region.wanted o (yielded ops a.tmps) = true) (s x : Operand) (t : TypeId)
    (ho : o.op = .call { callee := .builtin .append, args := #[s, x], argTypes := #[t, t] })
    (base : Nat) (e : TypeId) (i : TypeInfo) (z : Value) (size bytes : Nat) (ht : P.underlying t = some (.slice e)) (hi : P.info? e = some i) (hz : i.zero = some z)
    (hsize : i.size = size) (hby : i.bytes = bytes) (hzs : z.cells.size = size)
    (v : Value) (n : Nat) (xs : List Value) (hs : a.eval s = v) (hown : Owns w base e size v n xs)
    (y : Value) (m : Nat) (ys : List Value) (hx : a.eval x = y) (hr : Reads w size y m ys) (h1 : ∀ u ∈ ys, u.oneCell' = true)
    (N : Nat) (hN : n + m = N) (zs : List Value) (hzl : xs ++ ys = zs) (h63 : N ≤ 9223372036854775807) (hbytes : N * bytes ≤ 140737488355328) (hbase : base ≤ w.heap.size)
    (h : ∀ (q : Option Addr) (cap : Nat) w', Owns w' base e size (.slice q N cap) N zs → N ≤ cap → cap ≤ 9223372036854775807 → w.grownBy w' v.ownBlock → K (a.put o.dst (.slice q N cap)) w') :
    if Region.wanted o (yielded ops a.tmps) = true then Oper.wp P o a w K Q else E := by
  subst hN hzl
  obtain ⟨q, cap, w', hrun, h2, h3, h4⟩ := run_append_owns (P := P) w base t o.type e i z size bytes ht hi hz hsize hby hzs v n xs hown y m ys hr h1 (by simp only [maxLen]; omega) hbytes hbase
  obtain ⟨q', cap', he, h5, h6⟩ := h2.reads.shape
  cases he
  rw [if_pos hw]
  unfold Oper.wp execOp
  simp only [ho, resolve, invoke, builtin, Sem.run_bind, Sem.run_pure, Result.andThen_ok, List.map_toArray, List.map_cons, List.map_nil, hs, hx, hrun]
  exact h q cap w' h2 h5 h6 h3

theorem bytes_two {w : World} {q : Option Addr} {k cn : Nat} {xa xb xc : List UInt8} (h1 : xc.length = xa.length + cn) (h2 : xa ++ xb.take cn = xc) (h3 : cn ≤ xb.length) (h : Reads w 1 (.slice q (xa.length + cn) k) (xa.length + cn) (xa.map u8 ++ (xb.take cn).map u8)) :
    Bytes w (.slice q (xa.length + cn) k) xc := by
  unfold Bytes
  rw [h1, ← h2, List.map_append]
  exact h

theorem info3y : ∃ i, Try.prog.info? 5 = some i ∧ i.size = 1 ∧ i.bytes = 1 ∧ i.zero = some (.int .u8 0) := by
  obtain ⟨i, hi, hz0, hz1, hz2⟩ := info_parts infoU8
  exact ⟨i, hi, hz1, hz2, hz0⟩

set_option maxRecDepth 100000 in
set_option maxHeartbeats 1000000 in
theorem lasts_big (W : World) (a0 a1 : Option Addr) (c0 c1 n0 n1 : Nat) (keep : Int) (h0 : n0 ≤ c0) (h0' : c0 ≤ 9223372036854775807) (h1 : n1 ≤ c1) (h1' : c1 ≤ 9223372036854775807) (hbig : 5000 < n0 ∨ 5000 < n1) :
    Calls Try.prog 6 #[.slice a0 n0 c0, .slice a1 n1 c1, .int .i64 keep] W fun e w' => e = .returned (.bool true) ∧ Below W.heap.size W w' := by
  by_cases hb : 5000 < n0
  · clear hbig
    go_enter Try.func6, Try.ntmps6
    go_wp2_with fail
    refine (awake12_yes W).mono ?_
    rintro e w0 ⟨rfl, hb0⟩
    go_wp2_with fail
    go_ret
    exact ⟨rfl, hb0⟩
  · have hb' : 5000 < n1 := by omega
    clear hbig
    go_enter Try.func6, Try.ntmps6
    go_wp2_with fail
    refine (awake12_yes W).mono ?_
    rintro e w0 ⟨rfl, hb0⟩
    go_wp2_with fail
    go_ret
    exact ⟨rfl, hb0⟩

set_option maxRecDepth 100000 in
set_option maxHeartbeats 4000000 in
theorem lasts_yes (W : World) (v0 v1 : Value) (xa xb : List UInt8) (h0 : Bytes W v0 xa) (h1 : Bytes W v1 xb) (keep : Int) (hk1 : -9223372036854775808 ≤ keep) (hk2 : keep ≤ 9223372036854775807) :
    Calls Try.prog 6 #[v0, v1, .int .i64 keep] W fun e w' => e = .returned (.bool true) ∧ Below W.heap.size W w' := by
  obtain ⟨i, hi, hz1, hz2, hz0⟩ := info3y
  obtain ⟨a0, c0, rfl, hc0, hm0⟩ := h0.shape
  obtain ⟨a1, c1, rfl, hc1, hm1⟩ := h1.shape
  by_cases hbig : 5000 < xa.length ∨ 5000 < xb.length
  · exact lasts_big W a0 a1 c0 c1 _ _ keep hc0 hm0 hc1 hm1 hbig
  have hl0 : xa.length ≤ 5000 := by omega
  have hl1 : xb.length ≤ 5000 := by omega
  have HA := Lib.hid h0
  have HB := Lib.hid h1
  have Hi := Lib.hid hi
  have Hz0 := Lib.hid hz0
  have Hz1 := Lib.hid hz1
  have Hz2 := Lib.hid hz2
  clear h0 h1 hi hz0 hz1 hz2 hbig
  go_enter Try.func6, Try.ntmps6
  go_wp2_with fail
  refine (awake12_yes W).mono ?_
  rintro e w0 ⟨rfl, hb0⟩
  have B0 := Lib.hid hb0
  clear hb0
  go_wp2_with fail
  refine (new_any w0).mono ?_
  rintro e w1 ⟨f, b, rfl, hf0, hb0, h1, hb1⟩
  have hf : W.heap.size ≤ f := Nat.le_trans B0.out.size hf0
  have hb : W.heap.size ≤ b := Nat.le_trans B0.out.size hb0
  have H1 := Lib.hid h1
  have B1 := Lib.hid (B0.out.trans (hb1.mono B0.out.size))
  clear h1 hb1 B0 hf0 hb0
  go_wp2_with fail
  refine (app0 _ f b 0 0 H1.out ⟨#[120]⟩ [120] rfl rfl _ xa (HA.out.old B1.out (Nat.le_refl _)) (by omega) (by omega) (by omega) (by omega)).mono ?_
  rintro e w2 ⟨rfl, h2, f2⟩
  have B2 := Lib.hid (B1.out.trans (f2.below B1.out.size (by rintro x (rfl | rfl) <;> assumption)))
  have H2 := Lib.hid h2
  clear h2 f2 H1 B1
  go_wp2_with fail
  refine (syn1 w2 f b _ _ [120] xa 0 H2.out ⟨#[120]⟩ rfl rfl (by omega) (by omega) (by omega)).mono ?_
  rintro e w3 ⟨rfl, h3, f3⟩
  have B3 := Lib.hid (B2.out.trans (f3.below B2.out.size (by rintro x (rfl | rfl) <;> assumption)))
  have H3 := Lib.hid h3
  clear h3 f3 H2 B2
  go_wp2_with fail
  refine (app1 _ f b _ _ [120] xa _ H3.out ⟨#[120]⟩ rfl rfl _ xb (HB.out.old B3.out (Nat.le_refl _)) (by omega) (by omega) (by omega) (by omega)).mono ?_
  rintro e w4 ⟨rfl, h4, f4⟩
  have B4 := Lib.hid (B3.out.trans (f4.below B3.out.size (by rintro x (rfl | rfl) <;> assumption)))
  have H4 := Lib.hid h4
  clear h4 f4 H3 B3
  go_wp2_with fail
  have hA : Below w4.heap.size w4 (w4.alloc (.cells #[.int .i64 keep] 3)) := (Below.refl _ _).alloc (Nat.le_refl _) _
  refine (crash1 _ f b _ _ _ _ [120] _ _ (H4.out.below hA) (by simp; omega) (by omega) _ [keep] (ints_lit [keep] (heap_alloc_new w4 _) rfl (by simp)) (by simp; omega)).mono ?_
  rintro e w5 ⟨f5, b5, rfl, hf5, hb5, h5, f5b⟩
  have B5 := Lib.hid ((B4.out.trans (hA.mono B4.out.size)).trans (f5b.mono (Nat.le_trans B4.out.size hA.size)))
  obtain ⟨cn, hcn⟩ : ∃ cn : Nat, cn = (min (max keep 0) (xb.length : Int)).toNat := ⟨_, rfl⟩
  have hcn1 : (cn : Int) = min (max keep 0) (xb.length : Int) := by omega
  have hcnl : cn ≤ xb.length := by omega
  have ecut : cutN [keep] 0 (xa ++ xb) xa.length = cn := by
    simp [cutN]
    omega
  have etake : (xa ++ xb).take (xa.length + cn) = xa ++ xb.take cn := by rw [List.take_append, List.take_of_length_le (by omega), Nat.add_sub_cancel_left]
  rw [ecut, etake] at h5
  have H5 := Lib.hid h5
  have HCN := Lib.hid hcn1
  have HCL := Lib.hid hcnl
  have hlc : (xa ++ xb.take cn).length = xa.length + cn := by simp; omega
  have HLC := Lib.hid hlc
  clear h5 f5b hA H4 B4 hcn ecut etake hcn1 hcnl hlc
  generalize hxc : xa ++ xb.take cn = xc at *
  have HXC := Lib.hid hxc
  clear hxc
  have hlx : xc.length ≤ 10000 := by rw [HLC.out]; have := HCL.out; omega
  go_wp2_with fail
  refine (read1 w5 f5 b5 _ _ _ _ [120] _ _ H5.out (by omega) ⟨#[120]⟩ rfl (by decide)).mono ?_
  rintro e w6 ⟨v6, rfl, h6, f6b⟩
  obtain ⟨a6, c6, rfl, _, _⟩ := h6.reads.shape
  have B6 := Lib.hid (B5.out.trans (f6b.mono B5.out.size))
  have H56 := Lib.hid (H5.out.below f6b)
  have R6 := Lib.hid h6
  clear h6 f6b B5 H5
  go_wp2_with fail
  refine (crash1 w6 f5 b5 _ _ _ _ [120] _ _ H56.out (by omega) (by omega) _ [] (Reads.nil _ _) (by simp)).mono ?_
  rintro e w7 ⟨f7, b7, rfl, hf7, hb7, h7, f7b⟩
  have B7 := Lib.hid (B6.out.trans (f7b.mono B6.out.size))
  have R7 := Lib.hid (R6.out.reads.below f7b)
  have ecut : cutN [] 0 xc (xa.length + cn) = 0 := by simp [cutN]
  have etake : xc.take (xa.length + cn) = xc := List.take_of_length_le (Nat.le_of_eq HLC.out)
  simp only [ecut, Nat.add_zero, etake] at h7
  have H7 := Lib.hid h7
  clear h7 f7b H56 B6 R6 ecut etake
  go_wp2_with fail
  refine (read1 w7 f7 b7 _ _ _ _ [120] _ _ H7.out (by omega) ⟨#[120]⟩ rfl (by decide)).mono ?_
  rintro e w8 ⟨v8, rfl, h8, f8b⟩
  obtain ⟨a8, c8, rfl, _, _⟩ := h8.reads.shape
  have B8 := Lib.hid (B7.out.trans (f8b.mono B7.out.size))
  have R78 := Lib.hid (R7.out.below f8b)
  have R8 := Lib.hid h8
  clear h8 f8b B7 R7 H7
  go_upto_region 12 with fail
  obtain ⟨ta, tcap, hsl, hrt, _, htm, htc⟩ := slice_to 22 5 Try.underlying22 i Hi.out W 1 Hz1.out _ _ _ HB.out cn HCL.out
  rw [HCN.out] at hsl
  have hbt : Reads W 1 (.slice ta cn tcap) cn ((xb.take cn).map u8) := by
    rw [List.map_take]
    simpa using hrt
  have HBT := Lib.hid hbt
  clear hrt hbt htm htc
  go_region_held3 (fun w' => True) (trivial) (first | (go_at_call 32; refine (copy_any _ _ xa (HA.out.old (below_drewN (n := 1) B8.out) (Nat.le_refl _)) (by omega)).mono ?_; rintro e w9 ⟨v9, rfl, h9, f9⟩; obtain ⟨a9, c9, rfl, hq1, hq2⟩ := h9.reads.shape; have HO9 := Lib.hid h9; have HF9 := Lib.hid f9; clear h9 f9) | (refine step_append_owns_g (by rfl) _ _ 22 rfl w8.heap.size 5 i (.int .u8 0) 1 1 Try.underlying22 Hi.out Hz0.out Hz1.out Hz2.out rfl (.slice a9 xa.length c9) xa.length _ rfl HO9.out _ cn ((xb.take cn).map M.u8) rfl (HBT.out.old ((below_drewN B8.out 1).trans (HF9.out.mono B8.out.size)) (Nat.le_refl _)) (u8_one _) _ rfl _ rfl (by have := HCL.out; omega) (by have := HCL.out; omega) HF9.out.size ?_; intro q k w10 k1 k2 k3 k4; have B10 := Lib.hid (HF9.out.trans (Fr.below (Fr.of_grown (S := fun x => w8.heap.size ≤ x) k4 (fun x hx _ => (HO9.out.base_le x hx).1)) HF9.out.size (fun x hx => hx))); have Y10 := Lib.hid (bytes_two HLC.out HXC.out HCL.out k1.reads); clear k1 k4) | (go_at_call 19; refine (same_any _ _ _ xc xc ?hs1 ?hs2).mono ?_; (case hs1 => first | exact R78.out.below ((below_drewN (Below.refl _ w8) 1).trans B10.out) | exact R78.out.below (below_drewN ((below_drewN (Below.refl _ w8) 1).trans B10.out) _)); (case hs2 => first | exact Y10.out | exact R8.out.reads.below (below_drewN ((below_drewN (Below.refl _ w8) 1).trans B10.out) _)); rintro e w11 ⟨rfl, n11, rfl⟩))
  go_wp2_with fail
  go_ret
  exact ⟨rfl, below_drewN ((below_drewN B8.out 1).trans (B10.out.mono B8.out.size)) _⟩
end Go.Proofs.Ytpnlcogbahjnoaa.F
