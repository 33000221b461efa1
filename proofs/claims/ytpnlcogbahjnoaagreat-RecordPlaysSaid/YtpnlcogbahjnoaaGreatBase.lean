/- Words on memory: what blocks a call may turn, what a slice reads as, and append in one law. Conditions stand at each lemma. -/
import Derived.Test.YtpnlcogbahjnoaaGreatRows
import Derived.WalkKit
import Derived.WalkSpells
import Derived.WalkLawsBesides
import Derived.Lib.Hide
import Derived.Lib.AppendStr
import Derived.Laws.AppendOwnNone
import Derived.Deep.QuietTactic
import Derived.BigQuiet
import Derived.Deep.RegionHeld3
import Derived.Deep.DeepCutAuto
import Derived.Deep.LoopGhost
namespace Go.Proofs.YtpnlcogbahjnoaaGreat.M
open Go.RowKit
set_option linter.unusedVariables false

/-! ### small words -/
theorem ret_bool {a b : Bool} (h : a = b) : Ending.returned (.bool a) = .returned (.bool b) := by rw [h]
theorem ret_int {k : IntKind} {a b : Int} (h : a = b) : Ending.returned (.int k a) = .returned (.int k b) := by rw [h]
theorem bcell {W w1 : World} (hb : Below W.heap.size W w1) : (∀ b o, b < W.heap.size → w1.cell? ⟨b, o, none⟩ = W.cell? ⟨b, o, none⟩) ∧ (∀ b o, b < W.heap.size → w1.frozen? ⟨b, o, none⟩ = W.frozen? ⟨b, o, none⟩) :=
  ⟨fun b o h => hb.cell (p := ⟨b, o, none⟩) h, fun b o h => hb.frozen (p := ⟨b, o, none⟩) h⟩
theorem below2 {w w1 w2 : World} (h1 : Below w.heap.size w w1) (h2 : Below w1.heap.size w1 w2) : Below w.heap.size w w2 := h1.trans (h2.mono h1.size)
theorem quiet_same {P : Program} {f : FuncId} {args : Array Value} {w : World} {n : Nat} {v : Value}
    (h : Calls P f args (w.drewN n) fun e w' => e = .returned v ∧ w.drewN n = w') : Calls P f args (w.drewN n) fun e w'' => e = .returned v ∧ ∃ m, w'' = w.drewN m :=
  h.mono fun _ _ ⟨he, hm⟩ => ⟨he, n, hm.symm⟩
theorem hid_of {p : Prop} (h : p) : Hid p := h

/-! ### which blocks are turned -/
/-- Of the blocks of w none is turned but those in S; the rest of the world is as it was. -/
structure Fr (S : Nat → Prop) (w w' : World) : Prop where
  os : w'.os = w.os
  tape : w'.tape = w.tape
  output : w'.output = w.output
  size : w.heap.size ≤ w'.heap.size
  block : ∀ k, k < w.heap.size → ¬ S k → w'.heap[k]? = w.heap[k]?
theorem Fr.refl (S : Nat → Prop) (w : World) : Fr S w w := ⟨rfl, rfl, rfl, Nat.le_refl _, fun _ _ _ => rfl⟩
/-- the second step may turn what the first one laid -/
theorem Fr.trans {S S' : Nat → Prop} {a b c : World} (h : Fr S a b) (k : Fr S' b c) (hs : ∀ x, x < a.heap.size → S' x → S x) : Fr S a c :=
  ⟨k.os.trans h.os, k.tape.trans h.tape, k.output.trans h.output, Nat.le_trans h.size k.size, fun i hi hn => (k.block i (Nat.lt_of_lt_of_le hi h.size) (fun x => hn (hs i hi x))).trans (h.block i hi hn)⟩
theorem Fr.mono {S S' : Nat → Prop} {a b : World} (h : Fr S a b) (hs : ∀ x, x < a.heap.size → S x → S' x) : Fr S' a b :=
  ⟨h.os, h.tape, h.output, h.size, fun i hi hn => h.block i hi (fun x => hn (hs i hi x))⟩
theorem Fr.of_below {S : Nat → Prop} {w w' : World} (h : Below w.heap.size w w') : Fr S w w' := ⟨h.os, h.tape, h.output, h.size, fun k hk _ => h.block k hk⟩
theorem Fr.below {S : Nat → Prop} {w w' : World} (h : Fr S w w') {B : Nat} (hB : B ≤ w.heap.size) (hs : ∀ x, S x → B ≤ x) : Below B w w' :=
  ⟨h.os, h.tape, h.output, h.size, fun k hk => h.block k (Nat.lt_of_lt_of_le hk hB) (fun x => by have := hs k x; omega)⟩
theorem Fr.of_grown {S : Nat → Prop} {w w' : World} {row : Option Nat} (h : w.grownBy w' row) (hs : ∀ k, row = some k → k < w.heap.size → S k) : Fr S w w' :=
  ⟨h.os, h.tape, h.output, h.size, fun k hk hn => h.block k hk (fun e => hn (hs k e.symm hk))⟩
theorem Fr.cell {S : Nat → Prop} {w w' : World} (h : Fr S w w') {b o : Nat} (hb : b < w.heap.size) (hn : ¬ S b) : w'.cell? ⟨b, o, none⟩ = w.cell? ⟨b, o, none⟩ := World.cell?_of_block (w := w) (h.block b hb hn)
theorem Fr.frozen {S : Nat → Prop} {w w' : World} (h : Fr S w w') {b o : Nat} (hb : b < w.heap.size) (hn : ¬ S b) : w'.frozen? ⟨b, o, none⟩ = w.frozen? ⟨b, o, none⟩ := World.frozen?_of_block (w := w) (h.block b hb hn)
theorem Fr.cell_some {S : Nat → Prop} {w w' : World} (h : Fr S w w') {b o : Nat} {v : Value} (hc : w.cell? ⟨b, o, none⟩ = some v) (hn : ¬ S b) : w'.cell? ⟨b, o, none⟩ = some v :=
  (h.cell (World.block_lt_of_cell? w ⟨b, o, none⟩ hc) hn).trans hc
theorem Fr.obj {S : Nat → Prop} {w w' : World} (h : Fr S w w') {b : Nat} {o : Obj} (hc : w.heap[b]? = some o) (hn : ¬ S b) : w'.heap[b]? = some o :=
  (h.block b (Array.getElem?_eq_some_iff.1 hc).1 hn).trans hc
theorem lt_of_obj {w : World} {b : Nat} {o : Obj} (hc : w.heap[b]? = some o) : b < w.heap.size := (Array.getElem?_eq_some_iff.1 hc).1
theorem Fr.drewN {S : Nat → Prop} {w w' : World} (h : Fr S w w') (n : Nat) : Fr S w (w'.drewN n) := ⟨h.os, h.tape, h.output, h.size, h.block⟩
theorem Fr.drew {S : Nat → Prop} {w w' : World} (h : Fr S w w') : Fr S w w'.drew := ⟨h.os, h.tape, h.output, h.size, h.block⟩
theorem Fr.alloc {S : Nat → Prop} {w w' : World} (h : Fr S w w') (o : Obj) : Fr S w (w'.alloc o) :=
  ⟨h.os, h.tape, h.output, by have := h.size; simp; omega, fun k hk hn => (Below.heap_alloc w' o k (Nat.lt_of_lt_of_le hk h.size)).trans (h.block k hk hn)⟩
theorem Fr.setCell {S : Nat → Prop} {w w' : World} (h : Fr S w w') (p : Addr) (u : Value) (hp : p.block < w.heap.size → S p.block) : Fr S w (w'.setCell p u) :=
  ⟨h.os, h.tape, h.output, by have := h.size; simpa [World.setCell] using this, fun k hk hn => (Below.heap_setCell w' p u k (fun e => hn (e ▸ hp (e ▸ hk)))).trans (h.block k hk hn)⟩

/-! ### a block that is known whole -/
theorem heap_setCell_at {w : World} {b : Nat} {cur : Array Value} {t : TypeId} {fz : Nat × Nat} (h : w.heap[b]? = some (.cells cur t fz)) (i : Nat) (u : Value) :
    (w.setCell ⟨b, i, none⟩ u).heap[b]? = some (.cells (cur.setIfInBounds i u) t fz) := by
  simp [World.setCell, Array.getElem?_modify, h]
theorem heap_setCell_far {w : World} {b c : Nat} (i : Nat) (u : Value) (h : c ≠ b) : (w.setCell ⟨b, i, none⟩ u).heap[c]? = w.heap[c]? := Below.heap_setCell w ⟨b, i, none⟩ u c h
theorem cell_at {w : World} {b : Nat} {cur : Array Value} {t : TypeId} {fz : Nat × Nat} (h : w.heap[b]? = some (.cells cur t fz)) (i : Nat) : w.cell? ⟨b, i, none⟩ = cur[i]? := by simp [World.cell?, h]
theorem free_at {w : World} {b : Nat} {cur : Array Value} {t : TypeId} (h : w.heap[b]? = some (.cells cur t (0, 0))) (i : Nat) : w.frozen? ⟨b, i, none⟩ = false := by simp [World.frozen?, h]

/-! ### what a slice reads as -/
/-- the value v is a slice of n elements, 'size' cells each, that reads as the cells xs -/
def Reads (w : World) (size : Nat) (v : Value) (n : Nat) (xs : List Value) : Prop :=
  xs.length = n * size ∧ ((v = .slice none 0 0 ∧ n = 0) ∨
    ∃ p cap, v = .slice (some p) n cap ∧ n ≤ cap ∧ cap ≤ maxLen ∧ ∀ j u, xs[j]? = some u → p.spot = none ∧ w.cell? ⟨p.block, p.off + j, none⟩ = some u)

section
variable {w w' : World} {size : Nat} {v : Value} {n : Nat} {xs : List Value}
theorem Reads.nil (w : World) (size : Nat) : Reads w size (.slice none 0 0) 0 [] := ⟨by simp, .inl ⟨rfl, rfl⟩⟩
theorem Reads.fr {S : Nat → Prop} (h : Reads w size v n xs) (hf : Fr S w w') (hd : ∀ b, v.ownBlock = some b → xs ≠ [] → ¬ S b) : Reads w' size v n xs := by
  refine ⟨h.1, ?_⟩
  rcases h.2 with ⟨rfl, rfl⟩ | ⟨p, cap, rfl, hn, hm, hc⟩
  · exact .inl ⟨rfl, rfl⟩
  · refine .inr ⟨p, cap, rfl, hn, hm, fun j u hj => ⟨(hc j u hj).1, hf.cell_some (hc j u hj).2 (hd p.block rfl ?_)⟩⟩
    rintro rfl
    simp at hj
theorem Reads.below (h : Reads w size v n xs) (hb : Below w.heap.size w w') : Reads w' size v n xs :=
  h.fr (Fr.of_below (S := fun _ => False) hb) (fun _ _ _ => id)
/-- an old slice, through a world that kept what lies below B -/
theorem Reads.old {B : Nat} (h : Reads w size v n xs) (hb : Below B w w') (hB : w.heap.size ≤ B) : Reads w' size v n xs := h.below (hb.mono hB)
theorem Reads.lt (h : Reads w size v n xs) (hx : xs ≠ []) : ∀ b, v.ownBlock = some b → b < w.heap.size := by
  intro b hb
  rcases h.2 with ⟨rfl, rfl⟩ | ⟨p, cap, rfl, hn, hm, hc⟩
  · simp [Value.ownBlock] at hb
  · simp only [Value.ownBlock, Option.some.injEq] at hb
    subst hb
    cases xs with
    | nil => exact absurd rfl hx
    | cons x xs => exact World.block_lt_of_cell? w ⟨p.block, p.off + 0, none⟩ (hc 0 x rfl).2
theorem Reads.shape (h : Reads w size v n xs) : ∃ a cap, v = .slice a n cap ∧ n ≤ cap ∧ cap ≤ 9223372036854775807 := by
  rcases h.2 with ⟨rfl, rfl⟩ | ⟨p, cap, rfl, hn, hm, _⟩
  · exact ⟨none, 0, rfl, Nat.le_refl _, by omega⟩
  · exact ⟨some p, cap, rfl, hn, by simp only [maxLen] at hm; omega⟩
theorem Reads.empty (w : World) (size : Nat) (p : Addr) (cap : Nat) (hm : cap ≤ maxLen) : Reads w size (.slice (some p) 0 cap) 0 [] :=
  ⟨by simp, .inr ⟨p, cap, rfl, Nat.zero_le _, hm, fun j u hj => by simp at hj⟩⟩
end
theorem Reads.cons1 {w : World} {v x : Value} {m : Nat} {xs : List Value} (h : Reads w 1 v (m + 1) (x :: xs)) :
    ∃ g off cap, v = .slice (some ⟨g, off, none⟩) (m + 1) cap ∧ m + 1 ≤ cap ∧ cap ≤ 9223372036854775807 ∧ w.cell? ⟨g, off, none⟩ = some x := by
  rcases h.2 with ⟨rfl, h0⟩ | ⟨⟨b, off, sp⟩, cap, rfl, hn, hm, hc⟩
  · omega
  · obtain ⟨h1, h2⟩ := hc 0 x rfl
    simp only at h1
    subst h1
    exact ⟨b, off, cap, rfl, hn, by simp only [maxLen] at hm; omega, h2⟩
theorem Reads.tail1 {w : World} {g off cap m : Nat} {x : Value} {xs : List Value} (h : Reads w 1 (.slice (some ⟨g, off, none⟩) (m + 1) cap) (m + 1) (x :: xs)) :
    Reads w 1 (.slice (some ⟨g, off + 1, none⟩) m (cap - 1)) m xs := by
  rcases h.2 with ⟨h0, _⟩ | ⟨p, cap', he, hn, hm, hc⟩
  · cases h0
  · cases he
    refine ⟨by have := h.1; simp at this ⊢; omega, .inr ⟨⟨g, off + 1, none⟩, cap - 1, rfl, by omega, by omega, fun j u hj => ⟨rfl, ?_⟩⟩⟩
    show w.cell? ⟨g, off + 1 + j, none⟩ = some u
    rw [Nat.add_assoc, Nat.add_comm 1 j]
    exact (hc (j + 1) u (by simpa using hj)).2

/-! ### a part of a slice -/
section
variable {P : Program}
theorem add_map (g off j : Nat) : ((⟨g, off, none⟩ : Addr).add j) = ⟨g, off + j, none⟩ := by unfold Addr.add; split <;> simp_all
theorem add_off (p : Addr) (j : Nat) : (p.add j).block = p.block ∧ (p.add j).off = p.off + j ∧ (p.spot = none → (p.add j).spot = none) := by
  unfold Addr.add
  split
  · rename_i h; subst h; exact ⟨rfl, rfl, id⟩
  · exact ⟨rfl, rfl, fun _ => rfl⟩
theorem ite_some {c : Prop} [Decidable c] (x y : Addr) : (if c then some x else some y) = some (if c then x else y) := by split <;> rfl
/-- 'v[c:]' -/
theorem slice_from (T e : TypeId) (hT : P.underlying T = some (.slice e)) (i : TypeInfo) (hi : P.info? e = some i) (w : World) (size : Nat) (hs : i.size = size) (v : Value) (n : Nat) (xs : List Value) (h : Reads w size v n xs) (c : Nat) (hc : c ≤ n) :
    ∃ a' cap', (∀ (k : IntKind) (w' : World), (Instr.slice T v (some (.int k c)) none none).run P w' = .ok (.slice a' (n - c) cap') w') ∧ Reads w size (.slice a' (n - c) cap') (n - c) (xs.drop (c * size)) ∧
      (Value.slice a' (n - c) cap').ownBlock = v.ownBlock ∧ cap' ≤ 9223372036854775807 ∧ n - c ≤ cap' := by
  subst hs
  rcases h.2 with ⟨rfl, rfl⟩ | ⟨p, cap, rfl, hn, hm, hcell⟩
  · have h0 : c = 0 := by omega
    subst h0
    refine ⟨none, 0, fun k w' => ?_, ?_, rfl, by omega, by omega⟩
    · simp [Instr.slice, run_underlying hT, Instr.sliceBounds, Instr.sliceBound, asIntOf, sizeOf, typeInfo, hi]
    · have hx : xs = [] := List.eq_nil_of_length_eq_zero (by simpa using h.1)
      subst hx
      simpa using Reads.nil w i.size
  · refine ⟨some (if cap = c then p else p.add (c * i.size)), cap - c, fun k w' => ?_, ?_, ?_, by simp only [maxLen] at hm; omega, by omega⟩
    · simp [Instr.slice, run_underlying hT, Instr.sliceBounds, Instr.sliceBound, asIntOf, sizeOf, typeInfo, hi, hc, ite_some]
    · refine ⟨by rw [List.length_drop, h.1, Nat.sub_mul], .inr ⟨_, cap - c, rfl, by omega, by omega, fun j u hj => ?_⟩⟩
      rw [List.getElem?_drop] at hj
      by_cases hk : cap = c
      · exfalso
        have h1 := (List.getElem?_eq_some_iff.1 hj).1
        rw [h.1] at h1
        have : n = c := by omega
        subst this
        omega
      · obtain ⟨g1, g2⟩ := hcell _ u hj
        obtain ⟨a1, a2, a3⟩ := add_off p (c * i.size)
        rw [if_neg hk, a1, a2, Nat.add_assoc]
        exact ⟨a3 g1, g2⟩
    · simp only [Value.ownBlock]
      split
      · rfl
      · rw [(add_off p _).1]
/-- 'v[:c]' -/
theorem slice_to (T e : TypeId) (hT : P.underlying T = some (.slice e)) (i : TypeInfo) (hi : P.info? e = some i) (w : World) (size : Nat) (hs : i.size = size) (v : Value) (n : Nat) (xs : List Value) (h : Reads w size v n xs) (c : Nat) (hc : c ≤ n) :
    ∃ a' cap', (∀ (k : IntKind) (w' : World), (Instr.slice T v none (some (.int k c)) none).run P w' = .ok (.slice a' c cap') w') ∧ Reads w size (.slice a' c cap') c (xs.take (c * size)) ∧
      (Value.slice a' c cap').ownBlock = v.ownBlock ∧ cap' ≤ 9223372036854775807 ∧ c ≤ cap' := by
  subst hs
  rcases h.2 with ⟨rfl, rfl⟩ | ⟨p, cap, rfl, hn, hm, hcell⟩
  · have h0 : c = 0 := by omega
    subst h0
    refine ⟨none, 0, fun k w' => ?_, ?_, rfl, by omega, by omega⟩
    · simp [Instr.slice, run_underlying hT, Instr.sliceBounds, Instr.sliceBound, asIntOf, sizeOf, typeInfo, hi]
    · simpa using Reads.nil w i.size
  · have hcc : c ≤ cap := by omega
    refine ⟨some p, cap, fun k w' => ?_, ?_, rfl, by simp only [maxLen] at hm; omega, hcc⟩
    · have h00 : p.add 0 = p := by simp [Addr.add]
      simp [Instr.slice, run_underlying hT, Instr.sliceBounds, Instr.sliceBound, asIntOf, sizeOf, typeInfo, hi, hcc, h00]
    · have hlen : c * i.size ≤ xs.length := by rw [h.1]; exact Nat.mul_le_mul_right _ hc
      refine ⟨by rw [List.length_take]; omega, .inr ⟨p, cap, rfl, hcc, hm, fun j u hj => hcell j u ?_⟩⟩
      rw [List.getElem?_take] at hj
      split at hj
      · exact hj
      · cases hj
/-- 'v[j]': where it lies, and what is there -/
theorem index_reads (T e : TypeId) (hT : P.underlying T = some (.slice e)) (i : TypeInfo) (hi : P.info? e = some i) (w : World) (hs : i.size = 1) (v : Value) (n : Nat) (xs : List Value) (h : Reads w 1 v n xs) (j : Nat) (u : Value) (hj : xs[j]? = some u) :
    ∃ g o, (∀ (k : IntKind) (w' : World), (Instr.indexAt T v (.int k j)).run P w' = .ok (.pointer (some ⟨g, o, none⟩)) w') ∧ w.cell? ⟨g, o, none⟩ = some u ∧ v.ownBlock = some g := by
  have hl := (List.getElem?_eq_some_iff.1 hj).1
  rcases h.2 with ⟨rfl, rfl⟩ | ⟨⟨g, off, sp⟩, cap, rfl, hn, hm, hcell⟩
  · have := h.1
    omega
  · have hjn : j < n := by have := h.1; omega
    obtain ⟨h1, h2⟩ := hcell j u hj
    simp only at h1
    subst h1
    refine ⟨g, off + j, fun k w' => ?_, h2, rfl⟩
    simp [Instr.indexAt, run_underlying hT, asIntOf, sizeOf, typeInfo, hi, hs, hjn, add_map]
end

/-! ### a slice that may be written and appended to -/
/-- v is a slice of n elements that reads as the cells xs; its block has a number from base on, bears the type e, and may be written -/
def Owns (w : World) (base : Nat) (e : TypeId) (size : Nat) (v : Value) (n : Nat) (xs : List Value) : Prop :=
  xs.length = n * size ∧ ((v = .slice none 0 0 ∧ n = 0) ∨
    ∃ g off cap cur, v = .slice (some ⟨g, off, none⟩) n cap ∧ base ≤ g ∧ w.heap[g]? = some (.cells cur e (0, 0)) ∧ n ≤ cap ∧ cap ≤ maxLen ∧ off + cap * size ≤ cur.size ∧ ∀ j u, xs[j]? = some u → cur[off + j]? = some u)
section
variable {w w' : World} {base : Nat} {e : TypeId} {size : Nat} {v : Value} {n : Nat} {xs : List Value}
theorem Owns.nil (w : World) (base : Nat) (e : TypeId) (size : Nat) : Owns w base e size (.slice none 0 0) 0 [] := ⟨by simp, .inl ⟨rfl, rfl⟩⟩
theorem Owns.of_row (h : w.ownsRow base e size v n xs) : Owns w base e size v n xs := by
  refine ⟨h.1, ?_⟩
  rcases h.2 with ⟨rfl, rfl⟩ | ⟨g, cap, cur, rfl, hb, hg, hn, hm, hs, ht⟩
  · exact .inl ⟨rfl, rfl⟩
  · refine .inr ⟨g, 0, cap, cur, rfl, hb, hg, hn, hm, by omega, fun j u hj => ?_⟩
    rw [← ht, List.getElem?_take] at hj
    rw [Nat.zero_add]
    split at hj
    · simpa using hj
    · cases hj
theorem Owns.reads (h : Owns w base e size v n xs) : Reads w size v n xs := by
  refine ⟨h.1, ?_⟩
  rcases h.2 with ⟨rfl, rfl⟩ | ⟨g, off, cap, cur, rfl, hb, hg, hn, hm, hs, ht⟩
  · exact .inl ⟨rfl, rfl⟩
  · exact .inr ⟨⟨g, off, none⟩, cap, rfl, hn, hm, fun j u hj => ⟨rfl, by rw [cell_at hg]; exact ht j u hj⟩⟩
theorem Owns.base_le (h : Owns w base e size v n xs) : ∀ g, v.ownBlock = some g → base ≤ g ∧ g < w.heap.size := by
  intro g hg
  rcases h.2 with ⟨rfl, rfl⟩ | ⟨g', off, cap, cur, rfl, hb, hg', _⟩
  · simp [Value.ownBlock] at hg
  · simp only [Value.ownBlock, Option.some.injEq] at hg
    subst hg
    exact ⟨hb, lt_of_obj hg'⟩
theorem Owns.mono {base' : Nat} (h : Owns w base e size v n xs) (hb : base' ≤ base) : Owns w base' e size v n xs := by
  refine ⟨h.1, ?_⟩
  rcases h.2 with h | ⟨g, off, cap, cur, rfl, hbg, r⟩
  · exact .inl h
  · exact .inr ⟨g, off, cap, cur, rfl, Nat.le_trans hb hbg, r⟩
theorem Owns.fr {S : Nat → Prop} (h : Owns w base e size v n xs) (hf : Fr S w w') (hd : ∀ g, v.ownBlock = some g → ¬ S g) : Owns w' base e size v n xs := by
  refine ⟨h.1, ?_⟩
  rcases h.2 with h | ⟨g, off, cap, cur, rfl, hbg, hg, r⟩
  · exact .inl h
  · exact .inr ⟨g, off, cap, cur, rfl, hbg, hf.obj hg (hd g rfl), r⟩
end

section
variable {P : Program}
theorem add_lit (b off j : Nat) : ((⟨b, off, none⟩ : Addr).add j) = ⟨b, off + j, none⟩ := by unfold Addr.add; split <;> simp_all

/-- APPEND: onto nil, or onto a slice of one's own; where there is room in its block, else in a new one -/
theorem run_append_owns (w : World) (base : Nat) (t ty e : TypeId) (i : TypeInfo) (z : Value) (size bytes : Nat) (ht : P.underlying t = some (.slice e)) (hi : P.info? e = some i) (hz : i.zero = some z)
    (hsize : i.size = size) (hby : i.bytes = bytes) (hzs : z.cells.size = size)
    (v : Value) (n : Nat) (xs : List Value) (hown : Owns w base e size v n xs)
    (y : Value) (m : Nat) (ys : List Value) (hr : Reads w size y m ys) (h1 : ∀ u ∈ ys, u.oneCell' = true)
    (h63 : n + m ≤ maxLen) (hbytes : (n + m) * bytes ≤ 140737488355328) (hbase : base ≤ w.heap.size) :
    ∃ q cap w', (Builtin.append_ #[t, t] ty #[v, y]).run P w = .ok (.slice q (n + m) cap) w' ∧ Owns w' base e size (.slice q (n + m) cap) (n + m) (xs ++ ys) ∧
      w.grownBy w' v.ownBlock ∧ (∀ p, q = some p → v.ownBlock = some p.block ∨ w.heap.size ≤ p.block) := by
  subst hsize
  subst hby
  have hlen : (xs ++ ys).length = (n + m) * i.size := by rw [List.length_append, hown.1, hr.1, Nat.add_mul]
  have same : ∀ (w : World), w.grownBy w v.ownBlock := fun w => ⟨rfl, rfl, rfl, Nat.le_refl _, fun _ _ _ => rfl⟩
  have hmx : n + m ≤ 9223372036854775807 := by simp only [maxLen] at h63; omega
  rcases hr.2 with ⟨rfl, rfl⟩ | ⟨b, c, rfl, hnc, hmc, hc⟩
  · have hy : ys = [] := List.eq_nil_of_length_eq_zero (by simpa using hr.1)
    subst hy
    rcases hown.2 with ⟨rfl, rfl⟩ | ⟨g, off', cap, cur, rfl, hb, hg, hn, hm, hs, hcur⟩
    · refine ⟨none, 0, w, ?_, by simpa using hown, same w, by simp⟩
      simp [Builtin.append_, run_underlying ht, sizeOf, typeInfo, hi, Builtin.lenOf, Builtin.firstCells]
    · refine ⟨some ⟨g, off', none⟩, cap, w, ?_, by simpa using hown, same w, fun p hp => .inl (by cases hp; rfl)⟩
      simp [Builtin.append_, run_underlying ht, sizeOf, typeInfo, hi, Builtin.lenOf, Builtin.firstCells, hn, storeCells]
  · have hnews : ∀ j u, ys[j]? = some u → w.cell? (b.add j) = some u := fun j u hj => by
      obtain ⟨h1, h2⟩ := hc j u hj
      obtain ⟨a1, a2, a3⟩ := add_off b j
      have : b.add j = ⟨b.block, b.off + j, none⟩ := by
        rw [← a1, ← a2, ← a3 h1]
      rw [this]
      exact h2
    have grown : ∀ (old : Nat),
        Owns (w.drew.alloc (.cells (xs.toArray ++ ys.toArray ++ Builtin.zeroCells z.cells (grownCap w (n + m) old e - (n + m))) e)) base e i.size
          (.slice (some ⟨w.heap.size, 0, none⟩) (n + m) (grownCap w (n + m) old e)) (n + m) (xs ++ ys) ∧
        ∀ row, w.grownBy (w.drew.alloc (.cells (xs.toArray ++ ys.toArray ++ Builtin.zeroCells z.cells (grownCap w (n + m) old e - (n + m))) e)) row := by
      intro old
      have hge := grownCap_ge w (n + m) old e
      have hcm : grownCap w (n + m) old e ≤ maxLen := grownCap_le_maxLen w (n + m) old e h63
      refine ⟨⟨hlen, .inr ⟨w.heap.size, 0, _, _, rfl, hbase, heap_alloc_new w.drew _, hge, hcm, ?_, ?_⟩⟩, fun row => ⟨rfl, rfl, rfl, by simp, fun k hk _ => Below.heap_alloc w.drew _ k hk⟩⟩
      · simp only [Array.size_append, List.size_toArray, size_zeroCells, hzs, hown.1, hr.1, ← Nat.add_mul]
        rw [Nat.zero_add]
        exact Nat.mul_le_mul_right _ (by omega)
      · intro j u hj
        rw [Nat.zero_add, Array.getElem?_append_left]
        · simpa using hj
        · have := (List.getElem?_eq_some_iff.1 hj).1
          simpa using this
    rcases hown.2 with ⟨rfl, rfl⟩ | ⟨g, off', cap, cur, rfl, hbg, hg, hncap, hcm, hcs, htake⟩
    · have hx : xs = [] := List.eq_nil_of_length_eq_zero (by simpa using hown.1)
      subst hx
      by_cases hm : m = 0
      · subst hm
        have hn : ys = [] := List.eq_nil_of_length_eq_zero (by simpa using hr.1)
        subst hn
        refine ⟨none, 0, w, ?_, by simpa using hown, same w, by simp⟩
        simp [Builtin.append_, run_underlying ht, sizeOf, typeInfo, hi, Builtin.lenOf, Builtin.firstCells, loadCells, loadCellsFrom]
      · have hrn := run_append_nil (P := P) w t ty e i z ht hi hz b m c ys hr.1 hnews (by omega) (by omega) (by have hb := hbytes; simp only [Nat.zero_add] at hb; omega)
        have hgr := grown 0
        simp only [Nat.zero_add, List.nil_append, Array.empty_append] at hgr ⊢
        exact ⟨_, _, _, hrn, hgr.1, hgr.2 _, fun p hp => .inr (by cases hp; exact Nat.le_refl _)⟩
    · by_cases hroom : n + m ≤ cap
      · have hfit : off' + n * i.size + 0 + ys.length ≤ cur.size := by
          have h2 : n * i.size + ys.length ≤ cap * i.size := by rw [hr.1, ← Nat.add_mul]; exact Nat.mul_le_mul_right _ hroom
          omega
        have hf := run_firstCells_some (P := P) w i.size m b m c ys hr.1 hnews
        have hst := run_storeCells_at P g (off' + n * i.size) e ys 0 cur w hg hfit h1
        simp only [Nat.add_zero] at hst
        refine ⟨some ⟨g, off', none⟩, cap, w.setRow g (cur.toList.take (off' + n * i.size) ++ ys ++ cur.toList.drop (off' + n * i.size + ys.length)).toArray, ?_, ⟨hlen, .inr ⟨g, off', cap, _, rfl, hbg, setRow_heap w g cur _ e _ hg, hroom, hcm, ?_, ?_⟩⟩,
          ⟨rfl, rfl, rfl, by simp, fun k _ hk => setRow_other w g k _ (fun e => hk (by simp [Value.ownBlock, e]))⟩, fun p hp => .inl (by cases hp; rfl)⟩
        · simp [Builtin.append_, run_underlying ht, sizeOf, typeInfo, hi, Builtin.lenOf, hroom, hf, add_lit, hst]
        · simp only [List.size_toArray, List.length_append, List.length_take, List.length_drop, Array.length_toList]
          omega
        · intro j u hj
          simp only [List.getElem?_toArray]
          rw [List.append_assoc]
          by_cases hjx : j < xs.length
          · rw [List.getElem?_append_left (by simpa using hjx)] at hj
            rw [List.getElem?_append_left (by simp; rw [hown.1] at hjx; omega), List.getElem?_take, if_pos (by rw [hown.1] at hjx; omega)]
            simpa using htake j u hj
          · rw [List.getElem?_append_right (by omega)] at hj
            have hjy := (List.getElem?_eq_some_iff.1 hj).1
            have hx1 := hown.1
            rw [List.getElem?_append_right (by simp; omega), List.getElem?_append_left (by simp; omega)]
            rw [← hj]
            congr 1
            simp
            omega
      · have holds : ∀ j u, xs[j]? = some u → w.cell? ((⟨g, off', none⟩ : Addr).add j) = some u := fun j u hj => by rw [add_lit, cell_at hg]; exact htake j u hj
        have hrg := run_append_grow (P := P) w t ty e i z ht hi hz ⟨g, off', none⟩ n cap xs hown.1 holds b m c ys hr.1 hnews (by omega) (by omega) (growslice_fits (by omega) hbytes)
        have hgr := grown cap
        exact ⟨_, _, _, hrg, hgr.1, hgr.2 _, fun p hp => .inr (by cases hp; exact Nat.le_refl _)⟩

theorem wpList_append_owns {w : World} {ops : Array Oper} {rest : List Oper} {o : Oper} {a : Act} {Q : Exit → Act → World → Prop} (hgd : o.guard = none) (s x : Operand) (t : TypeId)
    (ho : o.op = .call { callee := .builtin .append, args := #[s, x], argTypes := #[t, t] })
    (base : Nat) (e : TypeId) (i : TypeInfo) (z : Value) (size bytes : Nat) (ht : P.underlying t = some (.slice e)) (hi : P.info? e = some i) (hz : i.zero = some z)
    (hsize : i.size = size) (hby : i.bytes = bytes) (hzs : z.cells.size = size)
    (v : Value) (n : Nat) (xs : List Value) (hs : a.eval s = v) (hown : Owns w base e size v n xs)
    (y : Value) (m : Nat) (ys : List Value) (hx : a.eval x = y) (hr : Reads w size y m ys) (h1 : ∀ u ∈ ys, u.oneCell' = true)
    (N : Nat) (hN : n + m = N) (zs : List Value) (hzl : xs ++ ys = zs) (h63 : N ≤ 9223372036854775807) (hbytes : N * bytes ≤ 140737488355328) (hbase : base ≤ w.heap.size)
    (h : ∀ (q : Option Addr) (cap : Nat) w', Owns w' base e size (.slice q N cap) N zs → N ≤ cap → cap ≤ 9223372036854775807 → w.grownBy w' v.ownBlock → (∀ p, q = some p → v.ownBlock = some p.block ∨ w.heap.size ≤ p.block) → wpList P ops Q rest (a.put o.dst (.slice q N cap)) w') : wpList P ops Q (o :: rest) a w := by
  subst hN hzl
  obtain ⟨q, cap, w', hrun, h2, h3, h4⟩ := run_append_owns (P := P) w base t o.type e i z size bytes ht hi hz hsize hby hzs v n xs hown y m ys hr h1 (by simp only [maxLen]; omega) hbytes hbase
  obtain ⟨q', cap', he, h5, h6⟩ := h2.reads.shape
  cases he
  refine wpList_plain hgd fun K hK => ?_
  unfold Oper.wp execOp
  simp only [ho, resolve, invoke, builtin, Sem.run_bind, Sem.run_pure, Result.andThen_ok, List.map_toArray, List.map_cons, List.map_nil, hs, hx, hrun]
  exact hK _ _ (h q cap w' h2 h5 h6 h3 h4)
end

section
variable {P : Program}
/-- append as a step of a region that draws its order -/
theorem step_append_owns {w : World} {ops : Array Oper} {o : Oper} {a : Act} {K : Act → World → Prop} {Q : Exit → Act → World → Prop} {E : Prop} (hgd : o.guard = none) (s x : Operand) (t : TypeId)
    (ho : o.op = .call { callee := .builtin .append, args := #[s, x], argTypes := #[t, t] })
    (base : Nat) (e : TypeId) (i : TypeInfo) (z : Value) (size bytes : Nat) (ht : P.underlying t = some (.slice e)) (hi : P.info? e = some i) (hz : i.zero = some z)
    (hsize : i.size = size) (hby : i.bytes = bytes) (hzs : z.cells.size = size)
    (v : Value) (n : Nat) (xs : List Value) (hs : a.eval s = v) (hown : Owns w base e size v n xs)
    (y : Value) (m : Nat) (ys : List Value) (hx : a.eval x = y) (hr : Reads w size y m ys) (h1 : ∀ u ∈ ys, u.oneCell' = true)
    (N : Nat) (hN : n + m = N) (zs : List Value) (hzl : xs ++ ys = zs) (h63 : N ≤ 9223372036854775807) (hbytes : N * bytes ≤ 140737488355328) (hbase : base ≤ w.heap.size)
    (h : ∀ (q : Option Addr) (cap : Nat) w', Owns w' base e size (.slice q N cap) N zs → N ≤ cap → cap ≤ 9223372036854775807 → w.grownBy w' v.ownBlock → (∀ p, q = some p → v.ownBlock = some p.block ∨ w.heap.size ≤ p.block) → K (a.put o.dst (.slice q N cap)) w') :
    if Region.wanted o (yielded ops a.tmps) = true then Oper.wp P o a w K Q else E := by
  subst hN hzl
  obtain ⟨q, cap, w', hrun, h2, h3, h4⟩ := run_append_owns (P := P) w base t o.type e i z size bytes ht hi hz hsize hby hzs v n xs hown y m ys hr h1 (by simp only [maxLen]; omega) hbytes hbase
  obtain ⟨q', cap', he, h5, h6⟩ := h2.reads.shape
  cases he
  have hw : Region.wanted o (yielded ops a.tmps) = true := by simp [Region.wanted, hgd]
  rw [if_pos hw]
  unfold Oper.wp execOp
  simp only [ho, resolve, invoke, builtin, Sem.run_bind, Sem.run_pure, Result.andThen_ok, List.map_toArray, List.map_cons, List.map_nil, hs, hx, hrun]
  exact h q cap w' h2 h5 h6 h3 h4
end
theorem Reads.one {w : World} {g : Nat} {e : TypeId} {fz : Nat × Nat} {x : Value} (h : w.heap[g]? = some (.cells #[x] e fz)) : Reads w 1 (.slice (some ⟨g, 0, none⟩) 1 1) 1 [x] := by
  refine ⟨rfl, .inr ⟨⟨g, 0, none⟩, 1, rfl, Nat.le_refl _, by simp [maxLen], fun j u hj => ⟨rfl, ?_⟩⟩⟩
  rw [cell_at h, Nat.zero_add]
  simpa using hj
theorem grown_cell {w w' : World} {row : Option Nat} (hg : w.grownBy w' row) {b o : Nat} {v : Value} (h : w.cell? ⟨b, o, none⟩ = some v) (hne : some b ≠ row) : w'.cell? ⟨b, o, none⟩ = some v := hg.cell h hne
theorem grown_free {w w' : World} {row : Option Nat} (hg : w.grownBy w' row) {b o : Nat} (h : b < w.heap.size) (hne : some b ≠ row) : w'.frozen? ⟨b, o, none⟩ = w.frozen? ⟨b, o, none⟩ := World.frozen?_of_block (w := w) (hg.block b h hne)

/-! ### bytes -/
def u8 (b : UInt8) : Value := .int .u8 b.toNat
/-- v is a slice of the bytes bs -/
def Bytes (w : World) (v : Value) (bs : List UInt8) : Prop := Reads w 1 v bs.length (bs.map u8)
theorem u8_one (bs : List UInt8) : ∀ u ∈ bs.map u8, u.oneCell' = true := by
  intro u hu
  obtain ⟨b, _, rfl⟩ := List.mem_map.1 hu
  rfl
theorem Bytes.shape {w : World} {v : Value} {bs : List UInt8} (h : Bytes w v bs) : ∃ a cap, v = .slice a bs.length cap ∧ bs.length ≤ cap ∧ cap ≤ 9223372036854775807 := Reads.shape h
theorem Bytes.of_owns {w : World} {base : Nat} {e : TypeId} {v : Value} {n : Nat} {bs : List UInt8} (h : Owns w base e 1 v n (bs.map u8)) : Bytes w v bs := by
  have hn : n = bs.length := by have := h.1; simp at this; omega
  subst hn
  exact h.reads

theorem Bytes.lit {w : World} {g : Nat} {t : TypeId} {fz : Nat × Nat} {cur : Array Value} (bs : List UInt8) (h : w.heap[g]? = some (.cells cur t fz)) (hc : cur = (bs.map u8).toArray) (hl : bs.length ≤ 1099511627776) :
    Bytes w (.slice (some ⟨g, 0, none⟩) bs.length bs.length) bs := by
  subst hc
  refine ⟨by simp, .inr ⟨⟨g, 0, none⟩, bs.length, rfl, Nat.le_refl _, by simp only [maxLen]; omega, fun j u hj => ⟨rfl, ?_⟩⟩⟩
  rw [cell_at h, Nat.zero_add]
  simpa using hj
/-- block g is a row of cells of the type t -/
def Tag (w : World) (g : Nat) (t : TypeId) : Prop := ∃ cur fz, w.heap[g]? = some (.cells cur t fz)
theorem Tag.of {w : World} {g : Nat} {t : TypeId} {cur : Array Value} {fz : Nat × Nat} (h : w.heap[g]? = some (.cells cur t fz)) : Tag w g t := ⟨cur, fz, h⟩
theorem Tag.fr {S : Nat → Prop} {w w' : World} {g : Nat} {t : TypeId} (h : Tag w g t) (hf : Fr S w w') (hn : ¬ S g) : Tag w' g t := by
  obtain ⟨cur, fz, h⟩ := h
  exact ⟨cur, fz, hf.obj h hn⟩
theorem Tag.not {w : World} {g : Nat} {t t' : TypeId} {cur : Array Value} {fz : Nat × Nat} (h : w.heap[g]? = some (.cells cur t fz)) (ht : t ≠ t') : ¬ Tag w g t' := by
  rintro ⟨c, f, h'⟩
  rw [h] at h'
  simp at h'
  exact ht h'.2.1
theorem Tag.not_map {w : World} {g : Nat} {t' : TypeId} {es : Array MapEntry} {c : Nat} (h : w.heap[g]? = some (.map es c)) : ¬ Tag w g t' := by
  rintro ⟨c, f, h'⟩
  rw [h] at h'
  simp at h'
theorem Tag.lt {w : World} {g : Nat} {t : TypeId} (h : Tag w g t) : g < w.heap.size := by
  obtain ⟨cur, fz, h⟩ := h
  exact lt_of_obj h

/-- v is a slice of the bytes bs, in memory of the program's own -/
def OB (w : World) (v : Value) (bs : List UInt8) : Prop := Bytes w v bs ∧ ∀ g, v.ownBlock = some g → bs ≠ [] → Tag w g 5
theorem OB.fr {S : Nat → Prop} {w w' : World} {v : Value} {bs : List UInt8} (h : OB w v bs) (hf : Fr S w w') (hs : ∀ g, S g → ¬ Tag w g 5) : OB w' v bs := by
  refine ⟨h.1.fr hf (fun b hb hx hS => ?_), fun g hg hx => (h.2 g hg hx).fr hf (fun hS => hs g hS (h.2 g hg hx))⟩
  exact hs b hS (h.2 b hb (by rintro rfl; exact hx rfl))
theorem OB.below {w w' : World} {v : Value} {bs : List UInt8} (h : OB w v bs) (hb : Below w.heap.size w w') : OB w' v bs := h.fr (Fr.of_below (S := fun _ => False) hb) (fun _ h => h.elim)
theorem OB.nil (w : World) : OB w (.slice none 0 0) [] := ⟨Reads.nil w 1, fun g hg => by simp [Value.ownBlock] at hg⟩
theorem OB.of_owns {w : World} {base : Nat} {v : Value} {n : Nat} {bs : List UInt8} (h : Owns w base 5 1 v n (bs.map u8)) : OB w v bs := by
  refine ⟨Bytes.of_owns h, fun g hg _ => ?_⟩
  rcases h.2 with ⟨rfl, _⟩ | ⟨g', off, cap, cur, rfl, _, hg', _⟩
  · simp [Value.ownBlock] at hg
  · simp only [Value.ownBlock, Option.some.injEq] at hg
    subst hg
    exact Tag.of hg'

end Go.Proofs.YtpnlcogbahjnoaaGreat.M
