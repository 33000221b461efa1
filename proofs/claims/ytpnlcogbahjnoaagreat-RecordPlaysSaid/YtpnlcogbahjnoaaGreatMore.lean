/- Append onto an empty slice without room; strings as keys; maps whose elements are structs. Conditions stand at each lemma. -/
import Derived.Test.YtpnlcogbahjnoaaGreatBase
import Derived.Maps.OwnSet
import Derived.Maps.Views
import Derived.Maps.Keyed
import Derived.WalkSmall
namespace Go.Proofs.YtpnlcogbahjnoaaGreat.M
open Go.RowKit
set_option linter.unusedVariables false

/-- as 'Owns', or an empty slice without room, wherever it points -/
def OwnZ (w : World) (base : Nat) (e : TypeId) (size : Nat) (v : Value) (n : Nat) (xs : List Value) : Prop := Owns w base e size v n xs ∨ (∃ q, v = .slice q 0 0) ∧ n = 0 ∧ xs = []
section
variable {w w' : World} {base : Nat} {e : TypeId} {size : Nat} {v : Value} {n : Nat} {xs : List Value}
theorem OwnZ.reads (h : OwnZ w base e size v n xs) : Reads w size v n xs := by
  rcases h with h | ⟨⟨q, rfl⟩, rfl, rfl⟩
  · exact h.reads
  · cases q with
    | none => exact Reads.nil w size
    | some p => exact Reads.empty w size p 0 (Nat.zero_le _)
theorem OwnZ.base_le (h : OwnZ w base e size v n xs) (hx : xs ≠ []) : ∀ g, v.ownBlock = some g → base ≤ g ∧ Tag w g e := by
  rcases h with h | ⟨_, _, rfl⟩
  · intro g hg
    refine ⟨(h.base_le g hg).1, ?_⟩
    rcases h.2 with ⟨rfl, _⟩ | ⟨g', off, cap, cur, rfl, _, hg', _⟩
    · simp [Value.ownBlock] at hg
    · simp only [Value.ownBlock, Option.some.injEq] at hg
      subst hg
      exact ⟨_, _, hg'⟩
  · exact (hx rfl).elim
theorem OwnZ.mono {base' : Nat} (h : OwnZ w base e size v n xs) (hb : base' ≤ base) : OwnZ w base' e size v n xs := h.imp (fun h => h.mono hb) id
theorem OwnZ.ob {bs : List UInt8} {v : Value} {n : Nat} (h : OwnZ w base 5 1 v n (bs.map u8)) : OB w v bs := by
  have hn : n = bs.length := by have := h.reads.1; simp at this; omega
  subst hn
  exact ⟨h.reads, fun g hg hb => (h.base_le (by simpa using hb) g hg).2⟩

variable {P : Program}
theorem run_append_ownz (w : World) (base : Nat) (t ty e : TypeId) (i : TypeInfo) (z : Value) (size bytes : Nat) (ht : P.underlying t = some (.slice e)) (hi : P.info? e = some i) (hz : i.zero = some z)
    (hsize : i.size = size) (hby : i.bytes = bytes) (hzs : z.cells.size = size)
    (v : Value) (n : Nat) (xs : List Value) (hown : OwnZ w base e size v n xs)
    (y : Value) (m : Nat) (ys : List Value) (hr : Reads w size y m ys) (h1 : ∀ u ∈ ys, u.oneCell' = true)
    (h63 : n + m ≤ maxLen) (hbytes : (n + m) * bytes ≤ 140737488355328) (hbase : base ≤ w.heap.size) :
    ∃ q cap w', (Builtin.append_ #[t, t] ty #[v, y]).run P w = .ok (.slice q (n + m) cap) w' ∧ OwnZ w' base e size (.slice q (n + m) cap) (n + m) (xs ++ ys) ∧ Fr (fun k => base ≤ k ∧ v.ownBlock = some k) w w' := by
  rcases hown with hown | ⟨⟨q, rfl⟩, rfl, rfl⟩
  · obtain ⟨q, cap, w', hrun, h2, h3, h4⟩ := run_append_owns (P := P) w base t ty e i z size bytes ht hi hz hsize hby hzs v n xs hown y m ys hr h1 h63 hbytes hbase
    exact ⟨q, cap, w', hrun, .inl h2, Fr.of_grown h3 (fun k hk _ => ⟨(hown.base_le k hk).1, hk⟩)⟩
  · have nil : Owns w base e size (.slice none 0 0) 0 [] := Owns.nil _ _ _ _
    cases q with
    | none =>
      obtain ⟨q, cap, w', hrun, h2, h3, h4⟩ := run_append_owns (P := P) w base t ty e i z size bytes ht hi hz hsize hby hzs _ 0 [] nil y m ys hr h1 h63 hbytes hbase
      exact ⟨q, cap, w', hrun, .inl h2, Fr.of_grown h3 (fun k hk _ => by simp [Value.ownBlock] at hk)⟩
    | some p =>
      by_cases hm : m = 0
      · subst hm
        have hy : ys = [] := List.eq_nil_of_length_eq_zero (by simpa using hr.1)
        subst hy
        refine ⟨some p, 0, w, ?_, .inr ⟨⟨_, rfl⟩, rfl, rfl⟩, Fr.refl _ _⟩
        rcases hr.2 with ⟨rfl, _⟩ | ⟨b, c, rfl, _⟩
        · simp [Builtin.append_, run_underlying ht, sizeOf, typeInfo, hi, Builtin.lenOf, Builtin.firstCells, storeCells]
        · simp [Builtin.append_, run_underlying ht, sizeOf, typeInfo, hi, Builtin.lenOf, Builtin.firstCells, storeCells, loadCells, loadCellsFrom]
      · rcases hr.2 with ⟨_, h0⟩ | ⟨b, c, rfl, hnc, hmc, hc⟩
        · exact (hm h0).elim
        · subst hsize hby
          have hnews : ∀ j u, ys[j]? = some u → w.cell? (b.add j) = some u := fun j u hj => by
            obtain ⟨h1, h2⟩ := hc j u hj
            obtain ⟨a1, a2, a3⟩ := add_off b j
            have : b.add j = ⟨b.block, b.off + j, none⟩ := by rw [← a1, ← a2, ← a3 h1]
            rw [this]
            exact h2
          have hmx : m ≤ 9223372036854775807 := by simp only [maxLen] at h63; omega
          have hrg := run_append_grow (P := P) w t ty e i z ht hi hz p 0 0 [] (by simp) (fun j v hj => by simp at hj) b m c ys hr.1 hnews (by omega) (by omega) (growslice_fits (by omega) hbytes)
          have hge := grownCap_ge w (0 + m) 0 e
          have hcm : grownCap w (0 + m) 0 e ≤ maxLen := grownCap_le_maxLen w (0 + m) 0 e h63
          refine ⟨_, _, _, hrg, .inl ⟨by simpa using hr.1, .inr ⟨w.heap.size, 0, _, _, rfl, hbase, heap_alloc_new w.drew _, hge, hcm, ?_, ?_⟩⟩, ⟨rfl, rfl, rfl, by simp, fun k hk _ => Below.heap_alloc w.drew _ k hk⟩⟩
          · simp only [Array.size_append, List.size_toArray, size_zeroCells, hzs, hr.1, List.length_nil]
            rw [Nat.zero_add, Nat.zero_add, Nat.zero_add, ← Nat.add_mul]
            exact Nat.mul_le_mul_right _ (by omega)
          · intro j u hj
            rw [Nat.zero_add, Array.getElem?_append_left]
            · simpa using hj
            · have := (List.getElem?_eq_some_iff.1 hj).1
              simpa using this

theorem wpList_append_ownz {w : World} {ops : Array Oper} {rest : List Oper} {o : Oper} {a : Act} {Q : Exit → Act → World → Prop} (hgd : o.guard = none) (s x : Operand) (t : TypeId)
    (ho : o.op = .call { callee := .builtin .append, args := #[s, x], argTypes := #[t, t] })
    (base : Nat) (e : TypeId) (i : TypeInfo) (z : Value) (size bytes : Nat) (ht : P.underlying t = some (.slice e)) (hi : P.info? e = some i) (hz : i.zero = some z)
    (hsize : i.size = size) (hby : i.bytes = bytes) (hzs : z.cells.size = size)
    (v : Value) (n : Nat) (xs : List Value) (hs : a.eval s = v) (hown : OwnZ w base e size v n xs)
    (y : Value) (m : Nat) (ys : List Value) (hx : a.eval x = y) (hr : Reads w size y m ys) (h1 : ∀ u ∈ ys, u.oneCell' = true)
    (N : Nat) (hN : n + m = N) (zs : List Value) (hzl : xs ++ ys = zs) (h63 : N ≤ 9223372036854775807) (hbytes : N * bytes ≤ 140737488355328) (hbase : base ≤ w.heap.size)
    (h : ∀ (q : Option Addr) (cap : Nat) w', OwnZ w' base e size (.slice q N cap) N zs → N ≤ cap → cap ≤ 9223372036854775807 → Fr (fun k => base ≤ k ∧ v.ownBlock = some k) w w' → wpList P ops Q rest (a.put o.dst (.slice q N cap)) w') : wpList P ops Q (o :: rest) a w := by
  subst hN hzl
  obtain ⟨q, cap, w', hrun, h2, h3⟩ := run_append_ownz (P := P) w base t o.type e i z size bytes ht hi hz hsize hby hzs v n xs hown y m ys hr h1 (by simp only [maxLen]; omega) hbytes hbase
  obtain ⟨q', cap', he, h5, h6⟩ := h2.reads.shape
  cases he
  refine wpList_plain hgd fun K hK => ?_
  unfold Oper.wp execOp
  simp only [ho, resolve, invoke, builtin, Sem.run_bind, Sem.run_pure, Result.andThen_ok, List.map_toArray, List.map_cons, List.map_nil, hs, hx, hrun]
  exact hK _ _ (h q cap w' h2 h5 h6 h3)
end

/-! ### maps: an element is its value as it stands -/
def RV (v : Value) : Option (DataW Value × List MemPlace) := some (.held v, [])
theorem RV_inv {v u : Value} {ps : List MemPlace} (h : RV v = some (.held u, ps)) : v = u := by
  simp [RV] at h
  exact h.1
/-- block b is a map with string keys that reads as D; it has at most n entries -/
def MapAt (w : World) (b n : Nat) (D : DataW Value) : Prop := w.ownsMap Tryz.prog 9 RV b n D
theorem MapAt.fr {S : Nat → Prop} {w w' : World} {b n : Nat} {D : DataW Value} (h : MapAt w b n D) (hf : Fr S w w') (hn : ¬ S b) : MapAt w' b n D := by
  obtain ⟨es, c, hb, r⟩ := h
  exact ⟨es, c, hf.obj hb hn, r⟩
theorem MapAt.not_tag {w : World} {b n : Nat} {D : DataW Value} (h : MapAt w b n D) (t : TypeId) : ¬ Tag w b t := by
  obtain ⟨es, c, hb, r⟩ := h
  exact Tag.not_map hb
theorem Fr.turned {w w' : World} {b : Nat} (h : w.mapTurned w' b) : Fr (fun k => k = b) w w' := Fr.of_grown h.grown (fun k hk _ => by cases hk; rfl)
end Go.Proofs.YtpnlcogbahjnoaaGreat.M
