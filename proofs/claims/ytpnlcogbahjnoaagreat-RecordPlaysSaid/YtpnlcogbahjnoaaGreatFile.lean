/- What package file's functions do to disks in memory. Conditions stand at each theorem. -/
import Derived.Test.YtpnlcogbahjnoaaGreatMore
import Derived.Test.YtpnlcogbahjnoaaGreatArgs
namespace Go.Proofs.YtpnlcogbahjnoaaGreat.F
open Go.RowKit Go.Proofs.YtpnlcogbahjnoaaGreat.M
set_option linter.unusedVariables false

theorem info5 : (Tryz.prog.info? 5).map (fun i => (i.zero, i.size, i.bytes)) = some (some (.int .u8 0), 1, 1) := by kernel_rfl
theorem zero_content (w : World) : (zeroValue 74).run Tryz.prog w = .ok (.agg #[.slice none 0 0, .int .i64 0]) w := by
  have h : (Tryz.prog.info? 74).map (·.zero) = some (some (.agg #[.slice none 0 0, .int .i64 0])) := by kernel_rfl
  cases hi : Tryz.prog.info? 74 with
  | none => simp [hi] at h
  | some i =>
    simp [hi] at h
    simp [zeroValue, typeInfo, hi, h]

/-- what a disk holds: of each name the bytes, and how many of them last -/
abbrev Disk := List UInt8 → Option (List UInt8 × Nat)
def cb (C : Disk) (k : List UInt8) : List UInt8 := ((C k).getD ([], 0)).1
def cl (C : Disk) (k : List UInt8) : Nat := ((C k).getD ([], 0)).2
def upd (C : Disk) (k : List UInt8) (x : Option (List UInt8 × Nat)) : Disk := fun k' => if k' = k then x else C k'
/-- the map's datum D says of each name what C says -/
def Holds (w : World) (D : DataW Value) (C : Disk) : Prop := ∀ k : List UInt8,
  (C k = none → Maps.has D (.string k) = false) ∧
  (∀ bs l, C k = some (bs, l) → Maps.has D (.string k) = true ∧ l ≤ bs.length ∧ ∃ sv, (∀ z, D.atKey (.string k) z = .held (.agg #[sv, .int .i64 l])) ∧ OB w sv bs)
theorem Holds.fr {S : Nat → Prop} {w w' : World} {D : DataW Value} {C : Disk} (h : Holds w D C) (hf : Fr S w w') (hs : ∀ g, S g → ¬ Tag w g 5) : Holds w' D C := fun k =>
  ⟨(h k).1, fun bs l hc => by
    obtain ⟨h1, h2, sv, h3, h4⟩ := (h k).2 bs l hc
    exact ⟨h1, h2, sv, h3, h4.fr hf hs⟩⟩
theorem Holds.put {w : World} {D : DataW Value} {C : Disk} (h : Holds w D C) (hD : Maps.IsMap D) (k : List UInt8) (sv : Value) (bs : List UInt8) (l : Nat) (hl : l ≤ bs.length) (hb : OB w sv bs) :
    Holds w (D.put (.string k) (.held (.agg #[sv, .int .i64 l]))) (upd C k (some (bs, l))) := fun k' => by
  by_cases hk : k' = k
  · subst hk
    refine ⟨fun hc => by simp [upd] at hc, fun bs' l' hc => ?_⟩
    simp [upd] at hc
    obtain ⟨rfl, rfl⟩ := hc
    exact ⟨Maps.has_put_same hD (by simp [WideAt.IsKeyLit]) _, hl, sv, fun z => Maps.atKey_put_same hD (by simp [WideAt.IsKeyLit]) _ _, hb⟩
  · have hne : Lit.string k' ≠ Lit.string k := fun e => hk (by cases e; rfl)
    have e1 : upd C k (some (bs, l)) k' = C k' := by simp [upd, hk]
    rw [e1]
    refine ⟨fun hc => by rw [Maps.has_put_other hne]; exact (h k').1 hc, fun bs' l' hc => ?_⟩
    obtain ⟨h1, h2, sv', h3, h4⟩ := (h k').2 bs' l' hc
    exact ⟨by rw [Maps.has_put_other hne]; exact h1, h2, sv', fun z => by rw [Maps.atKey_put_other hne]; exact h3 z, h4⟩
theorem Holds.del {w : World} {D : DataW Value} {C : Disk} (h : Holds w D C) (k : List UInt8) : Holds w (D.del (.string k)) (upd C k none) := fun k' => by
  by_cases hk : k' = k
  · subst hk
    exact ⟨fun _ => Maps.has_del_same, fun bs l hc => by simp [upd] at hc⟩
  · have hne : Lit.string k' ≠ Lit.string k := fun e => hk (by cases e; rfl)
    have e1 : upd C k none k' = C k' := by simp [upd, hk]
    rw [e1]
    refine ⟨fun hc => by rw [Maps.has_del_other hne]; exact (h k').1 hc, fun bs' l' hc => ?_⟩
    obtain ⟨h1, h2, sv', h3, h4⟩ := (h k').2 bs' l' hc
    exact ⟨by rw [Maps.has_del_other hne]; exact h1, h2, sv', fun z => by rw [Maps.atKey_del_other hne]; exact h3 z, h4⟩

abbrev KS : Maps.Keyed Tryz.prog 9 := Maps.string_keyed Tryz.underlying9
/-- both ways to look a name up -/
theorem look {w : World} {b n : Nat} {D : DataW Value} {C : Disk} (h : MapAt w b n D) (hH : Holds w D C) (s : ByteArray) (hs : s.size ≤ maxLen) :
    ∃ sa scap, (Instr.lookup 53 (.map (some b)) (.string s) false).run Tryz.prog w = .ok (.agg #[.slice sa (cb C s.data.toList).length scap, .int .i64 (cl C s.data.toList)]) w ∧
      (Instr.lookup 53 (.map (some b)) (.string s) true).run Tryz.prog w = .ok (.tuple #[.agg #[.slice sa (cb C s.data.toList).length scap, .int .i64 (cl C s.data.toList)], .bool (C s.data.toList).isSome]) w ∧
      OB w (.slice sa (cb C s.data.toList).length scap) (cb C s.data.toList) ∧ cl C s.data.toList ≤ (cb C s.data.toList).length ∧ (cb C s.data.toList).length ≤ scap ∧ scap ≤ 9223372036854775807 := by
  suffices hS : ∃ sv, (Instr.lookup 53 (.map (some b)) (.string s) false).run Tryz.prog w = .ok (.agg #[sv, .int .i64 (cl C s.data.toList)]) w ∧
      (Instr.lookup 53 (.map (some b)) (.string s) true).run Tryz.prog w = .ok (.tuple #[.agg #[sv, .int .i64 (cl C s.data.toList)], .bool (C s.data.toList).isSome]) w ∧
      OB w sv (cb C s.data.toList) ∧ cl C s.data.toList ≤ (cb C s.data.toList).length by
    obtain ⟨sv, r1, r2, r3, r4⟩ := hS
    obtain ⟨sa, scap, rfl, r5, r6⟩ := r3.1.shape
    exact ⟨sa, scap, r1, r2, r3, r4, r5, r6⟩
  have hk := WideMaps.keyOf_string_mk (P := Tryz.prog) Tryz.underlying9 hs
  obtain ⟨v1, p1, r1, e1⟩ := World.ownsMap.lookup h KS Tryz.underlying53 (zero_content w) (zd := .held (.agg #[.slice none 0 0, .int .i64 0])) (zp := []) rfl hk
  obtain ⟨v2, p2, r2, e2⟩ := World.ownsMap.look_ok h KS Tryz.underlying53 (zero_content w) (zd := .held (.agg #[.slice none 0 0, .int .i64 0])) (zp := []) rfl hk
  obtain ⟨hn, hsm⟩ := hH s.data.toList
  cases hc : C s.data.toList with
  | none =>
    have hh := hn hc
    rw [Maps.atKey_of_not_has hh] at e1 e2
    obtain rfl := RV_inv e1
    obtain rfl := RV_inv e2
    refine ⟨.slice none 0 0, ?_, ?_, ?_, ?_⟩
    · rw [r1]; simp [cl, hc]
    · rw [r2, hh]; simp [cl, hc]
    · simp only [cb, hc, Option.getD_none]; exact OB.nil w
    · simp [cl, cb, hc]
  | some x =>
    obtain ⟨bs, l⟩ := x
    obtain ⟨hh, hl, sv, hat, hob⟩ := hsm bs l hc
    rw [hat] at e1 e2
    obtain rfl := RV_inv e1
    obtain rfl := RV_inv e2
    refine ⟨sv, ?_, ?_, ?_, ?_⟩
    · rw [r1]; simp [cl, hc]
    · rw [r2, hh]; simp [cl, hc]
    · simpa [cb, hc] using hob
    · simpa [cl, cb, hc] using hl

/-- block f is a disk; its map is block b -/
def FAt (w : World) (f b : Nat) (steps fuse : Int) (dead : Bool) : Prop := w.heap[f]? = some (.cells #[.bool true, .map (some b), .int .i64 steps, .int .i64 fuse, .bool dead] 55 (0, 0))
structure Files (w : World) (f b m : Nat) (C : Disk) (steps fuse : Int) (dead : Bool) : Prop where
  at_ : FAt w f b steps fuse dead
  map : ∃ D, MapAt w b m D ∧ Holds w D C
theorem Files.tag {w : World} {f b m : Nat} {C : Disk} {steps fuse : Int} {dead : Bool} (h : Files w f b m C steps fuse dead) : Tag w f 55 := ⟨_, _, h.at_⟩
theorem Files.not_tag {w : World} {f b m : Nat} {C : Disk} {steps fuse : Int} {dead : Bool} (h : Files w f b m C steps fuse dead) (t : TypeId) : ¬ Tag w b t := by
  obtain ⟨D, hD, _⟩ := h.map
  exact hD.not_tag t
theorem Files.f_ne {w : World} {f b m : Nat} {C : Disk} {steps fuse : Int} {dead : Bool} (h : Files w f b m C steps fuse dead) : ¬ f = b := by
  rintro rfl
  exact h.not_tag _ h.tag
theorem Files.fr {S : Nat → Prop} {w w' : World} {f b m : Nat} {C : Disk} {steps fuse : Int} {dead : Bool} (h : Files w f b m C steps fuse dead) (hf : Fr S w w') (h1 : ¬ S f) (h2 : ¬ S b) (h3 : ∀ g, S g → ¬ Tag w g 5) :
    Files w' f b m C steps fuse dead := by
  obtain ⟨D, hD, hH⟩ := h.map
  exact ⟨hf.obj h.at_ h1, D, hD.fr hf h2, hH.fr hf h3⟩
theorem Files.below {w w' : World} {f b m : Nat} {C : Disk} {steps fuse : Int} {dead : Bool} (h : Files w f b m C steps fuse dead) (hb : Below w.heap.size w w') : Files w' f b m C steps fuse dead :=
  h.fr (Fr.of_below (S := fun _ => False) hb) id id (fun _ h => h.elim)
theorem tag_ne {w : World} {i j : Nat} {t t' : TypeId} (h : Tag w i t) (h' : Tag w j t') (hn : t ≠ t') : i ≠ j := by
  rintro rfl
  obtain ⟨c, f, h⟩ := h
  obtain ⟨c', f', h'⟩ := h'
  rw [h] at h'
  simp at h'
  exact hn h'.2.1

set_option maxHeartbeats 400000 in
theorem new_any (w : World) :
    Calls Tryz.prog 6 #[] w fun e w' => ∃ f b, e = .returned (.pointer (some ⟨f, 0, none⟩)) ∧ w.heap.size ≤ f ∧ w.heap.size ≤ b ∧ Files w' f b 0 (fun _ => none) 0 (-1) false ∧ Below w.heap.size w w' := by
  have hmk := fun w => run_makeMap (P := Tryz.prog) 53 w
  go_enter Tryz.func6, Tryz.ntmps6
  go_wp2_with fail
  go_ret
  refine ⟨_, w.heap.size, rfl, by simp, Nat.le_refl _, ⟨?_, .map [], (World.ownsMap_made w _ _ _).alloc _, fun k => ⟨fun _ => rfl, fun bs l hc => by cases hc⟩⟩, ?_⟩
  · have := heap_alloc_new (w.alloc (.map #[] 0)) (.cells #[.bool true, .map (some w.heap.size), .int .i64 0, .int .i64 (-1), .bool false] 55)
    simpa [FAt] using this
  · exact ((Below.refl _ _).alloc (Nat.le_refl _) _).alloc (by simp) _

set_option maxHeartbeats 400000 in
theorem ready_any (w : World) (f b m : Nat) (C : Disk) (steps fuse : Int) (dead : Bool) (h : Files w f b m C steps fuse dead) :
    Calls Tryz.prog 31 #[.pointer (some ⟨f, 0, none⟩)] w fun e w' => e = .returned (.int .i64 (if dead then 7 else 0)) ∧ w = w' := by
  have h0 := cell_at h.at_ 0
  have h4 := cell_at h.at_ 4
  simp at h0 h4
  clear h
  cases dead with
  | true =>
    go_enter Tryz.func31, Tryz.ntmps31
    go_wp2_with fail
    go_ret
    exact ⟨rfl, rfl⟩
  | false =>
    go_enter Tryz.func31, Tryz.ntmps31
    go_wp2_with fail
    go_ret
    exact ⟨rfl, rfl⟩

def named (k : List UInt8) : Bool := decide (0 < k.length ∧ k.length ≤ 24)
set_option maxHeartbeats 400000 in
theorem named_any (w : World) (s : ByteArray) (hs : s.size ≤ maxLen) :
    Calls Tryz.prog 47 #[.string s] w fun e w' => e = .returned (.bool (named s.data.toList)) ∧ w = w' := by
  have hm : s.size ≤ 9223372036854775807 := by simp only [maxLen] at hs; omega
  have hl : s.data.toList.length = s.size := by simp
  clear hs
  by_cases h1 : 0 < s.size
  · have e1 : named s.data.toList = decide (s.size ≤ 24) := by simp [named, h1]
    rw [e1]
    clear e1 hl
    go_enter Tryz.func47, Tryz.ntmps47
    go_wp2_with fail
    go_ret
    exact ⟨by simp; omega, rfl⟩
  · have e1 : named s.data.toList = false := by simp [named]; omega
    rw [e1]
    clear e1 hl
    go_enter Tryz.func47, Tryz.ntmps47
    go_wp2_with fail
    go_ret
    exact ⟨rfl, rfl⟩

set_option maxHeartbeats 400000 in
theorem step_zero (w : World) (f b : Nat) (steps : Int) (dead : Bool) (h : FAt w f b steps 0 dead) (h1 : 0 ≤ steps) (h2 : steps ≤ 1099511627776) :
    Calls Tryz.prog 48 #[.pointer (some ⟨f, 0, none⟩)] w fun e w' => e = .returned (.int .i64 7) ∧ FAt w' f b (steps + 1) 0 true ∧ Fr (· = f) w w' := by
  have c2 := cell_at h 2
  have c3 := cell_at h 3
  have f2 := free_at h 2
  have f4 := free_at h 4
  simp at c2 c3
  have c4 := cell_at h 4
  simp at c4
  have H := Lib.hid h
  clear h
  go_enter Tryz.func48, Tryz.ntmps48
  go_wp2_with fail
  go_ret
  have o1 := heap_setCell_at H.out 2 (.int .i64 (steps + 1))
  have o2 := heap_setCell_at o1 4 (.bool true)
  refine ⟨rfl, o2, ?_⟩
  exact Fr.setCell (S := fun k => k = f) (Fr.setCell (S := fun k => k = f) (Fr.refl _ _) _ _ (fun _ => rfl)) _ _ (fun _ => rfl)

set_option maxHeartbeats 400000 in
theorem step_on (w : World) (f b : Nat) (steps fuse : Int) (dead : Bool) (h : FAt w f b steps fuse dead) (h1 : 0 ≤ steps) (h2 : steps ≤ 1099511627776) (h3 : fuse ≠ 0) (h4 : fuse ≤ 9223372036854775807) :
    Calls Tryz.prog 48 #[.pointer (some ⟨f, 0, none⟩)] w fun e w' => e = .returned (.int .i64 0) ∧ FAt w' f b (steps + 1) (if 0 < fuse then fuse - 1 else fuse) dead ∧ Fr (· = f) w w' := by
  have c2 := cell_at h 2
  have c3 := cell_at h 3
  have f2 := free_at h 2
  have f3 := free_at h 3
  simp at c2 c3
  have H := Lib.hid h
  clear h
  have o1 := heap_setCell_at H.out 2 (.int .i64 (steps + 1))
  have O1 := Lib.hid o1
  clear o1
  by_cases hp : 0 < fuse
  · rw [if_pos hp]
    go_enter Tryz.func48, Tryz.ntmps48
    go_wp2_with fail
    go_ret
    exact ⟨rfl, heap_setCell_at O1.out 3 _, Fr.setCell (S := fun k => k = f) (Fr.setCell (S := fun k => k = f) (Fr.refl _ _) _ _ (fun _ => rfl)) _ _ (fun _ => rfl)⟩
  · rw [if_neg hp]
    go_enter Tryz.func48, Tryz.ntmps48
    go_wp2_with fail
    go_ret
    exact ⟨rfl, O1.out, Fr.setCell (S := fun k => k = f) (Fr.refl _ _) _ _ (fun _ => rfl)⟩

set_option maxRecDepth 100000 in
set_option maxHeartbeats 1000000 in
/-- slices.Clone at bytes -/
theorem clone_any (w : World) (v : Value) (bs : List UInt8) (hv : Bytes w v bs) (hl : bs.length ≤ 1099511627776) :
    Calls Tryz.prog 33 #[v] w fun e w' => ∃ v', e = .returned v' ∧ OwnZ w' w.heap.size 5 1 v' bs.length (bs.map u8) ∧ Below w.heap.size w w' := by
  obtain ⟨i, hi, hz0, hz1, hz2⟩ := info_parts info5
  obtain ⟨a, cap, rfl, hcap, hmax⟩ := hv.shape
  have Hi := Lib.hid hi
  have Hz0 := Lib.hid hz0
  have Hz1 := Lib.hid hz1
  have Hz2 := Lib.hid hz2
  have HV := Lib.hid hv
  clear hi hz0 hz1 hz2 hv
  have heq := fun w => Lib.run_eql_slice_nil (P := Tryz.prog) w 52 5 a bs.length cap 0 0 Tryz.underlying52
  cases a with
  | none =>
    have hn : bs = [] := by
      rcases HV.out.2 with ⟨_, h0⟩ | ⟨p, c, he, _⟩
      · exact List.eq_nil_of_length_eq_zero h0
      · cases he
    subst hn
    have hc0 : cap = 0 := by
      rcases HV.out.2 with ⟨h0, _⟩ | ⟨p, c, he, _⟩
      · cases h0; rfl
      · cases he
    subst hc0
    have heq' : ∀ w, (binOp .eql 52 (.slice none 0 0) (.slice none 0 0)).run Tryz.prog w = .ok (.bool true) w := fun w => heq w
    clear heq
    go_enter Tryz.func33, Tryz.ntmps33
    go_wp2_with fail
    go_ret
    exact ⟨_, rfl, .inl (Owns.nil _ _ _ _), Below.refl _ _⟩
  | some p =>
    go_enter Tryz.func33, Tryz.ntmps33
    go_wp2_with (at_builtin; refine wpList_append_ownz rfl _ _ 52 rfl w.heap.size 5 i (.int .u8 0) 1 1 Tryz.underlying52 Hi.out Hz0.out Hz1.out Hz2.out rfl (.slice (some ⟨w.heap.size, 0, none⟩) 0 0) 0 [] rfl (.inr ⟨⟨_, rfl⟩, rfl, rfl⟩) (.slice (some p) bs.length cap) bs.length (bs.map u8) rfl (HV.out.below ((Below.refl _ _).alloc (Nat.le_refl _) _)) (u8_one bs) bs.length (Nat.zero_add _) (bs.map u8) rfl ?hc (by omega) ?hd ?_; (case hc => omega); (case hd => simp); intro q k w' hr hk hm hf)
    go_ret
    refine ⟨_, rfl, hr, ?_⟩
    exact ((Below.refl _ w).alloc (Nat.le_refl _) _).trans (hf.below (by simp) (fun x hx => hx.1))
set_option maxHeartbeats 400000 in
theorem append_dead (w : World) (f b m : Nat) (C : Disk) (steps fuse : Int) (h : Files w f b m C steps fuse true) (s v : Value) :
    Calls Tryz.prog 25 #[.pointer (some ⟨f, 0, none⟩), s, v] w fun e w' => e = .returned (.int .i64 7) ∧ w = w' := by
  go_enter Tryz.func25, Tryz.ntmps25
  go_wp2_with fail
  refine (ready_any w f b m C steps fuse true h).mono ?_
  rintro e w ⟨rfl, rfl⟩
  go_wp2_with fail
  go_ret
  exact ⟨rfl, rfl⟩
set_option maxHeartbeats 400000 in
theorem append_bad (w : World) (f b m : Nat) (C : Disk) (steps fuse : Int) (h : Files w f b m C steps fuse false) (s : ByteArray) (hs : s.size ≤ maxLen) (hn : named s.data.toList = false) (v : Value) :
    Calls Tryz.prog 25 #[.pointer (some ⟨f, 0, none⟩), .string s, v] w fun e w' => e = .returned (.int .i64 1) ∧ w = w' := by
  go_enter Tryz.func25, Tryz.ntmps25
  go_wp2_with fail
  refine (ready_any w f b m C steps fuse false h).mono ?_
  rintro e w ⟨rfl, rfl⟩
  go_wp2_with fail
  refine (named_any w s hs).mono ?_
  rintro e w ⟨rfl, rfl⟩
  go_wp2_with fail
  go_ret
  exact ⟨rfl, rfl⟩

theorem two_cells {w : World} {z : Nat} {x y : Value} {t : TypeId} {fz : Nat × Nat} (h : w.heap[z]? = some (.cells #[x, y] t fz)) : w.cell? ⟨z, 0, none⟩ = some x ∧ w.cell? ⟨z, 1, none⟩ = some y :=
  ⟨by simpa using cell_at h 0, by simpa using cell_at h 1⟩
/-- a step done, whatever the fuse -/
def stepE (fuse : Int) : Int := if fuse = 0 then 7 else 0
def stepF (fuse : Int) : Int := if 0 < fuse then fuse - 1 else fuse
theorem step_any (w : World) (f b : Nat) (steps fuse : Int) (h : FAt w f b steps fuse false) (h1 : 0 ≤ steps) (h2 : steps ≤ 1099511627776) (h4 : fuse ≤ 9223372036854775807) :
    Calls Tryz.prog 48 #[.pointer (some ⟨f, 0, none⟩)] w fun e w' => e = .returned (.int .i64 (stepE fuse)) ∧ FAt w' f b (steps + 1) (stepF fuse) (decide (fuse = 0)) ∧ Fr (· = f) w w' := by
  by_cases h0 : fuse = 0
  · subst h0
    exact step_zero w f b steps false h h1 h2
  · have e1 : stepE fuse = 0 := if_neg h0
    have e2 : decide (fuse = 0) = false := decide_eq_false h0
    rw [e1, e2]
    exact step_on w f b steps fuse false h h1 h2 h0 h4

set_option maxRecDepth 100000 in
set_option maxHeartbeats 2000000 in
theorem append_ok (w : World) (f b m : Nat) (C : Disk) (steps fuse : Int) (h : Files w f b m C steps fuse false) (s : ByteArray) (hn : named s.data.toList = true) (v : Value) (cs : List UInt8) (hv : Bytes w v cs)
    (hlen : (cb C s.data.toList).length + cs.length ≤ 1099511627776) (hm : m ≤ 1099511627776) (h1 : 0 ≤ steps) (h2 : steps ≤ 1099511627776) (h4 : fuse ≤ 9223372036854775807) :
    Calls Tryz.prog 25 #[.pointer (some ⟨f, 0, none⟩), .string s, v] w fun e w' => e = .returned (.int .i64 (stepE fuse)) ∧
      Files w' f b (m + 1) (upd C s.data.toList (some (cb C s.data.toList ++ cs, cl C s.data.toList))) (steps + 1) (stepF fuse) (decide (fuse = 0)) ∧ Fr (fun k => k = f ∨ k = b) w w' := by
  obtain ⟨i, hi, hz0, hz1, hz2⟩ := info_parts info5
  have hs24 : s.size ≤ 24 := by simp [named] at hn; omega
  have hs : s.size ≤ maxLen := by simp only [maxLen]; omega
  obtain ⟨D, hD, hH⟩ := h.map
  obtain ⟨sa, scap, lk1, _, hob, hcl, hsc, hsm⟩ := look hD hH s hs
  obtain ⟨va, vcap, rfl, hvc, hvm⟩ := hv.shape
  generalize hk : s.data.toList = k at *
  have c1 := cell_at h.at_ 1
  simp at c1
  have Hi := Lib.hid hi
  have Hz0 := Lib.hid hz0
  have Hz1 := Lib.hid hz1
  have Hz2 := Lib.hid hz2
  have HF := Lib.hid h
  have HD := Lib.hid hD
  have HH := Lib.hid hH
  have HO := Lib.hid hob
  have HV := Lib.hid hv
  clear hi hz0 hz1 hz2 h hD hH hob hv
  go_enter Tryz.func25, Tryz.ntmps25
  go_wp2_with fail
  refine (ready_any w f b m C steps fuse false HF.out).mono ?_
  rintro e w ⟨rfl, rfl⟩
  go_wp2_with fail
  refine (named_any w s hs).mono ?_
  rintro e w ⟨rfl, rfl⟩
  rw [hk, hn]
  go_wp2_with fail
  have hA : Below w.heap.size w (w.alloc (.cells #[.slice sa (cb C k).length scap, .int .i64 (cl C k)] 74)) := (Below.refl _ _).alloc (Nat.le_refl _) _
  have z1 := heap_alloc_new w (.cells #[.slice sa (cb C k).length scap, .int .i64 (cl C k)] 74)
  have hsz : (w.alloc (.cells #[.slice sa (cb C k).length scap, .int .i64 (cl C k)] 74)).heap.size = w.heap.size + 1 := by simp
  generalize w.alloc (.cells #[.slice sa (cb C k).length scap, .int .i64 (cl C k)] 74) = w1 at *
  have hfz : f ≠ w.heap.size := Nat.ne_of_lt (lt_of_obj HF.out.at_)
  obtain ⟨hcl0, hcl1⟩ := two_cells z1
  have hcw : ∀ (bl o : Nat), bl < w.heap.size → w1.cell? ⟨bl, o, none⟩ = w.cell? ⟨bl, o, none⟩ := (bcell hA).1
  refine (clone_any w1 _ _ (HO.out.1.below hA) (by omega)).mono ?_
  rintro e w2 ⟨v2, rfl, ho2, hb2⟩
  have HO2 := Lib.hid ho2
  clear ho2 hcl0 hcl1 hcw lk1
  have hA2 : Below w.heap.size w w2 := hA.trans (hb2.mono (by omega))
  have hs2 := hb2.size
  have z2 := Lib.hid ((hb2.block w.heap.size (by omega)).trans z1)
  clear z1
  go_wp2_with (at_builtin; refine wpList_append_ownz rfl _ _ 52 rfl w1.heap.size 5 i (.int .u8 0) 1 1 Tryz.underlying52 Hi.out Hz0.out Hz1.out Hz2.out rfl v2 (cb C k).length ((cb C k).map u8) rfl HO2.out (.slice va cs.length vcap) cs.length (cs.map u8) rfl (HV.out.below hA2) (u8_one cs) ((cb C k).length + cs.length) rfl ((cb C k ++ cs).map u8) (by simp) ?hc (by omega) ?hd ?_; (case hc => omega); (case hd => exact hs2); intro q k3 w3 hr3 hk3 hm3 hf3; have z3 := Fr.obj hf3 z2.out (fun hh => by have := hh.1; omega); have c30 := cell_at z3 0; have f30 := free_at z3 0; have Z3 := Lib.hid z3; have HR3 := Lib.hid hr3; have HF3 := Lib.hid hf3; clear z3 hr3 hf3)
  have F3 : Fr (fun k => k = f ∨ k = b) w w3 := (Fr.of_below hA2).trans HF3.out (fun x hx hh => by have := hh.1; omega)
  have z4 := heap_setCell_at Z3.out 0 (.slice q ((cb C k).length + cs.length) k3)
  have F4 : Fr (fun k => k = f ∨ k = b) w (w3.setCell ⟨w.heap.size, 0, none⟩ (.slice q ((cb C k).length + cs.length) k3)) := F3.setCell _ _ (fun hh => absurd hh (Nat.lt_irrefl _))
  have N4 : Fr (fun _ => False) w (w3.setCell ⟨w.heap.size, 0, none⟩ (.slice q ((cb C k).length + cs.length) k3)) := ((Fr.of_below hA2).trans HF3.out (fun x hx hh => by have := hh.1; omega)).setCell _ _ (fun hh => absurd hh (Nat.lt_irrefl _))
  have o4 : OB (w3.setCell ⟨w.heap.size, 0, none⟩ (.slice q ((cb C k).length + cs.length) k3)) (.slice q ((cb C k).length + cs.length) k3) (cb C k ++ cs) := HR3.out.ob.fr (S := fun k => k = w.heap.size) (Fr.setCell (Fr.refl _ _) _ _ (fun _ => rfl)) (by rintro g rfl; exact Tag.not Z3.out (by decide))
  generalize w3.setCell ⟨w.heap.size, 0, none⟩ (.slice q ((cb C k).length + cs.length) k3) = w4 at *
  simp at z4
  obtain ⟨c40, c41⟩ := two_cells z4
  have c4f : w4.cell? ⟨f, 1, none⟩ = some (.map (some b)) := N4.cell_some c1 id
  have D4 : MapAt w4.drew b m D := (HD.out.fr N4 id).drew
  have H4 : Holds w4 D C := HH.out.fr N4 (fun _ h => h.elim)
  have hkk : keyOf Tryz.prog 9 (.string s) = some (.string k) := by rw [← hk]; exact WideMaps.keyOf_string_mk Tryz.underlying9 hs
  obtain ⟨w5, hrun, D5, T5⟩ := World.ownsMap.store D4 KS Tryz.underlying53 (by simp only [maxLen]; omega) hkk (val := .agg #[.slice q ((cb C k).length + cs.length) k3, .int .i64 (cl C k)]) (d := .held (.agg #[.slice q ((cb C k).length + cs.length) k3, .int .i64 (cl C k)])) (ps := []) rfl
  have F5 : Fr (fun k => k = b) w4 w5 := Fr.trans (S' := fun k => k = b) (Fr.drew (Fr.refl _ w4)) (Fr.turned T5) (fun _ _ h => h)
  have c5f := F5.cell_some c4f (Files.f_ne HF.out)
  have c50 := F5.cell_some c40 (fun e => Nat.lt_irrefl b (Nat.lt_of_lt_of_eq (World.ownsMap.lt HD.out) e))
  have c51 := F5.cell_some c41 (fun e => Nat.lt_irrefl b (Nat.lt_of_lt_of_eq (World.ownsMap.lt HD.out) e))
  have HF5 := Lib.hid F5
  clear F5
  have HT5 := Lib.hid T5
  have HD5 := Lib.hid D5
  have HF4 := Lib.hid F4
  have HN4 := Lib.hid N4
  have HO4 := Lib.hid o4
  have HD4 := Lib.hid D4
  have HH4 := Lib.hid H4
  clear T5 D5 F3 F4 N4 z4 o4 D4 H4 hkk c30 f30 hA hA2 hb2
  go_region_held3 (fun w' => w'.cell? ⟨f, 1, none⟩ = some (.map (some b)) ∧ w'.cell? ⟨w.heap.size, 0, none⟩ = some (.slice q ((cb C k).length + cs.length) k3) ∧ w'.cell? ⟨w.heap.size, 1, none⟩ = some (.int .i64 (cl C k))) (simp [*]) (fail)
  have A5 : FAt w5 f b steps fuse false := HF5.out.obj (HN4.out.obj HF.out.at_ id) (Files.f_ne HF.out)
  clear c4f c40 c41 c5f c50 c51 hrun c1
  go_wp2_with fail
  refine (step_any w5 f b steps fuse A5 h1 h2 h4).mono ?_
  rintro e w6 ⟨rfl, A6, F6⟩
  go_wp2_with fail
  go_ret
  have hfu : ¬ Tag w5 f 5 := Tag.not A5 (by decide)
  have H5 := (HH4.out.put (World.ownsMap.isMap HD4.out) k (.slice q ((cb C k).length + cs.length) k3) (cb C k ++ cs) (cl C k) (by rw [List.length_append]; omega) HO4.out)
  have H5' := H5.fr HF5.out (by rintro g rfl; exact (MapAt.not_tag (w := w4) HD4.out _))
  refine ⟨rfl, ⟨A6, _, MapAt.fr (w := w5) HD5.out F6 (fun e => Files.f_ne HF.out e.symm), H5'.fr F6 (by rintro g rfl; exact hfu)⟩, ?_⟩
  exact (HF4.out.trans HF5.out (fun x _ h => Or.inr h)).trans F6 (fun x _ h => Or.inl h)

set_option maxRecDepth 100000 in
set_option maxHeartbeats 1000000 in
theorem there_any (w : World) (f b m : Nat) (C : Disk) (steps fuse : Int) (dead : Bool) (h : Files w f b m C steps fuse dead) (s : ByteArray) (hs : s.size ≤ maxLen) :
    Calls Tryz.prog 43 #[.pointer (some ⟨f, 0, none⟩), .string s] w fun e w' => e = .returned (.bool (C s.data.toList).isSome) ∧ Below w.heap.size w w' := by
  obtain ⟨D, hD, hH⟩ := h.map
  obtain ⟨sa, scap, _, lk2, _⟩ := look hD hH s hs
  have c1 := cell_at h.at_ 1
  simp at c1
  clear hD hH h
  go_enter Tryz.func43, Tryz.ntmps43
  go_wp2_with fail
  go_ret
  exact ⟨rfl, (Below.refl _ w).alloc (Nat.le_refl _) _⟩

set_option maxRecDepth 100000 in
set_option maxHeartbeats 1000000 in
theorem read_any (w : World) (f b m : Nat) (C : Disk) (steps fuse : Int) (dead : Bool) (h : Files w f b m C steps fuse dead) (s : ByteArray) (hs : s.size ≤ maxLen) (hl : (cb C s.data.toList).length ≤ 1099511627776) :
    Calls Tryz.prog 23 #[.pointer (some ⟨f, 0, none⟩), .string s] w fun e w' => ∃ v', e = .returned (.tuple #[v', .bool (C s.data.toList).isSome]) ∧
      OwnZ w' w.heap.size 5 1 v' (cb C s.data.toList).length ((cb C s.data.toList).map u8) ∧ Below w.heap.size w w' := by
  have HF := Lib.hid h
  clear h
  cases hc : C s.data.toList with
  | none =>
    have e1 : cb C s.data.toList = [] := by simp [cb, hc]
    rw [e1]
    clear e1 hl
    go_enter Tryz.func23, Tryz.ntmps23
    go_wp2_with fail
    refine (there_any w f b m C steps fuse dead HF.out s hs).mono ?_
    rintro e w1 ⟨rfl, hb1⟩
    rw [hc]
    go_wp2_with fail
    go_ret2
    exact ⟨_, rfl, .inl (Owns.nil _ _ _ _), hb1⟩
  | some x =>
    go_enter Tryz.func23, Tryz.ntmps23
    go_wp2_with fail
    refine (there_any w f b m C steps fuse dead HF.out s hs).mono ?_
    rintro e w1 ⟨rfl, hb1⟩
    rw [hc]
    have h1 := HF.out.below hb1
    obtain ⟨D, hD, hH⟩ := h1.map
    obtain ⟨sa, scap, lk1, _, hob, _⟩ := look hD hH s hs
    have c1 := cell_at h1.at_ 1
    simp at c1
    have HO := Lib.hid hob
    have hfl : ∀ (x : Value) (y : Int) (w : World), (Instr.field 74 (.agg #[x, .int .i64 y]) 0).run Tryz.prog w = .ok x w := fun _ _ _ => by kernel_rfl
    clear hD hH h1 hob
    go_wp2_with fail
    refine (clone_any w1 _ _ HO.out.1 hl).mono ?_
    rintro e w2 ⟨v2, rfl, ho2, hb2⟩
    have HO2 := Lib.hid ho2
    clear ho2 lk1
    go_wp2_with fail
    go_ret2
    exact ⟨_, rfl, HO2.out.mono hb1.size, hb1.trans (hb2.mono hb1.size)⟩

set_option maxHeartbeats 400000 in
theorem steps_any (w : World) (f b m : Nat) (C : Disk) (steps fuse : Int) (dead : Bool) (h : Files w f b m C steps fuse dead) :
    Calls Tryz.prog 17 #[.pointer (some ⟨f, 0, none⟩)] w fun e w' => e = .returned (.int .i64 steps) ∧ w = w' := by
  have c2 := cell_at h.at_ 2
  simp at c2
  clear h
  go_enter Tryz.func17, Tryz.ntmps17
  go_wp2_with fail
  go_ret
  exact ⟨rfl, rfl⟩
set_option maxHeartbeats 400000 in
theorem dead_any (w : World) (f b m : Nat) (C : Disk) (steps fuse : Int) (dead : Bool) (h : Files w f b m C steps fuse dead) :
    Calls Tryz.prog 18 #[.pointer (some ⟨f, 0, none⟩)] w fun e w' => e = .returned (.bool dead) ∧ w = w' := by
  have c4 := cell_at h.at_ 4
  simp at c4
  clear h
  go_enter Tryz.func18, Tryz.ntmps18
  go_wp2_with fail
  go_ret
  exact ⟨rfl, rfl⟩
set_option maxHeartbeats 400000 in
theorem fuse_on (w : World) (f b m : Nat) (C : Disk) (steps fuse n : Int) (h : Files w f b m C steps fuse false) :
    Calls Tryz.prog 10 #[.pointer (some ⟨f, 0, none⟩), .int .i64 n] w fun e w' => e = .returned (.tuple #[]) ∧ Files w' f b m C steps n false ∧ Fr (· = f) w w' := by
  have c3 := cell_at h.at_ 3
  have f3 := free_at h.at_ 3
  simp at c3
  have HF := Lib.hid h
  clear h
  go_enter Tryz.func10, Tryz.ntmps10
  go_wp2_with fail
  refine (ready_any w f b m C steps fuse false HF.out).mono ?_
  rintro e w ⟨rfl, rfl⟩
  go_wp2_with fail
  go_end0
  obtain ⟨D, hD, hH⟩ := HF.out.map
  have F : Fr (fun k => k = f) w (w.setCell ⟨f, 3, none⟩ (.int .i64 n)) := Fr.setCell (Fr.refl _ _) _ _ (fun _ => rfl)
  exact ⟨rfl, ⟨heap_setCell_at HF.out.at_ 3 _, D, hD.fr F (fun e => HF.out.f_ne e.symm), hH.fr F (by rintro g rfl; exact Tag.not HF.out.at_ (by decide))⟩, F⟩

end Go.Proofs.YtpnlcogbahjnoaaGreat.F
