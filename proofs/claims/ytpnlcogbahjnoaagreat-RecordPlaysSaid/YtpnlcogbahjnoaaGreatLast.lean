/- A region that draws its order and whose last operation waits for all others: that operation is borne behind the region. Conditions stand at each theorem. -/
import Derived.Test.YtpnlcogbahjnoaaGreatQDisk2
import Derived.StillTail
namespace Go.Proofs.YtpnlcogbahjnoaaGreat.F
open Go.RowKit Go.Proofs.YtpnlcogbahjnoaaGreat.M
set_option linter.unusedVariables false

/-- an operation that does nothing, at the place of o -/
def idleO (o : Oper) : Oper := { o with op := .assign (.const undef) }
/-- Q, but where the region has ended the operation o is still to come -/
def LastQ (P : Program) (o : Oper) (Q : Exit → Act → World → Prop) : Exit → Act → World → Prop
  | .normal, a, w => ∀ K : Act → World → Prop, (∀ a w, Q .normal a w → K a w) → o.wp P a w K Q
  | e, a, w => Q e a w
theorem upon_last {P : Program} {o o' : Oper} {Q : Exit → Act → World → Prop} {a : Act} {K : Act → World → Prop} {r : Result Next} (h : o'.upon P a K (LastQ P o Q) r) : o'.upon P a K Q r := by
  cases r with
  | ok x w => cases x <;> exact h
  | halt x w => cases x <;> exact h
theorem last_wp {P : Program} {o o' : Oper} {Q : Exit → Act → World → Prop} {a : Act} {K : Act → World → Prop} {w : World} (h : o'.wp P a w K (LastQ P o Q)) : o'.wp P a w K Q := upon_last h

section
variable {P : Program} {ops ops2 : Array Oper} {md : Region.Mode} {n : Nat} {o : Oper}
/-- the operations of a region, the last one idle -/
structure Idled (ops ops2 : Array Oper) (n : Nat) (o : Oper) : Prop where
  size : ops.size = n + 1
  size2 : ops2.size = n + 1
  at_ : ops[n]? = some o
  at2 : ops2[n]? = some (idleO o)
  rest : ∀ i, i ≠ n → ops2[i]? = ops[i]?
theorem Idled.after (h : Idled ops ops2 n o) (i : Nat) : (ops2[i]?).map (·.after) = (ops[i]?).map (·.after) := by
  by_cases hi : i = n
  · subst hi; rw [h.at_, h.at2]; rfl
  · rw [h.rest i hi]
theorem Idled.ready (h : Idled ops ops2 n o) (listed : Array Bool) : Region.ready md ops2 listed = Region.ready md ops listed := by
  unfold Region.ready
  rw [h.size, h.size2]
  refine List.filter_congr (fun i _ => ?_)
  have h1 := h.after i
  cases hx : ops2[i]? with
  | none =>
    cases hy : ops[i]? with
    | none => rfl
    | some y => rw [hx, hy] at h1; cases h1
  | some x =>
    cases hy : ops[i]? with
    | none => rw [hx, hy] at h1; cases h1
    | some y =>
      rw [hx, hy] at h1
      simp only [Option.map_some, Option.some.injEq] at h1
      simp only [Option.map_some, h1]
theorem Idled.yielded (h : Idled ops ops2 n o) (tmps : Array Value) : Go.yielded ops2 tmps = Go.yielded ops tmps := by
  funext j
  unfold Go.yielded
  by_cases hj : j = n
  · subst hj; rw [h.at_, h.at2]; rfl
  · rw [h.rest j hj]

/-- each operation waits for earlier ones only -/
def backB (ops : Array Oper) : Bool := (List.range ops.size).all fun i => ((ops[i]?).map (·.after.all fun e => decide (e.on < i))).getD true
theorem backB_spec (h : backB ops = true) {i : Nat} {o : Oper} (ho : ops[i]? = some o) : ∀ e ∈ o.after, e.on < i := by
  have hlt := (Array.getElem?_eq_some_iff.1 ho).1
  have h1 := List.all_eq_true.1 h i (List.mem_range.2 hlt)
  rw [ho] at h1
  simp only [Option.map_some, Option.getD_some] at h1
  intro e he
  have h2 := Array.all_eq_true_iff_forall_mem.1 h1 e he
  simpa using h2
/-- while an operation has not come up there is one that may -/
theorem ready_some (hb : backB ops = true) {listed : Array Bool} (hsz : listed.size = ops.size) : ∀ (k i : Nat), i ≤ k → listed.getD i true = false → Region.ready md ops listed ≠ [] := by
  intro k
  induction k with
  | zero =>
    intro i hi hl h0
    obtain rfl : i = 0 := by omega
    have hlt : 0 < ops.size := by
      rcases Nat.lt_or_ge 0 listed.size with h' | h'
      · omega
      · simp [Array.getElem?_eq_none h'] at hl
    have : 0 ∈ Region.ready md ops listed := mem_ready.2 ⟨hl, ops[0], by simp [hlt], fun e he _ => by have := backB_spec hb (i := 0) (o := ops[0]) (by simp [hlt]) e he; omega⟩
    rw [h0] at this
    cases this
  | succ k ih =>
    intro i hi hl h0
    by_cases hall : ∃ j, j ≤ k ∧ listed.getD j true = false
    · obtain ⟨j, hj, hjl⟩ := hall
      exact ih j hj hjl h0
    · by_cases hik : i ≤ k
      · exact hall ⟨i, hik, hl⟩
      · have hlt : i < ops.size := by
          rcases Nat.lt_or_ge i listed.size with h' | h'
          · omega
          · simp [Array.getElem?_eq_none h'] at hl
        have : i ∈ Region.ready md ops listed := mem_ready.2 ⟨hl, ops[i], by simp [hlt], fun e he _ => by
          have he' := backB_spec hb (i := i) (o := ops[i]) (by simp [hlt]) e he
          cases hx : listed.getD e.on false with
          | true => rfl
          | false => exact (hall ⟨e.on, by omega, getD_in (by omega) hx⟩).elim⟩
        rw [h0] at this
        cases this

theorem idle_wp {Q : Exit → Act → World → Prop} {a : Act} {w : World} {K : Act → World → Prop} (hd : o.dst = none) (h : (idleO o).wp P a w K Q) : K a w := by
  have h1 : (idleO o).wp P a w K Q = K (a.put (idleO o).dst undef) w := rfl
  rw [h1] at h
  have h2 : (idleO o).dst = none := hd
  rw [h2] at h
  exact h
theorem idle_asks {a : Act} {w : World} (h : (idleO o).asks P a w) : False := by
  have h1 : noRoomEvent ∈ (#[] : Array Event) := h.1
  simp at h1

theorem wpAny_last {Q : Exit → Act → World → Prop} (hI : Idled ops ops2 n o) (hd : o.dst = none) (hg : o.guard = none) (hs : Region.sinkB md ops n = true) (hc : Region.chainB md ops n = true) (hb : backB ops = true) :
    ∀ (fuel : Nat) (listed : Array Bool) (a : Act) (w : World), HeadInv md ops n listed → wpAny P md ops2 (LastQ P o Q) fuel listed a w → wpAny P md ops Q fuel listed a w := by
  have hn : n < ops.size := by have := hI.size; omega
  intro fuel
  induction fuel with
  | zero =>
    intro listed a w inv h
    have h1 := h.1
    rw [hI.ready] at h1
    exact (ready_some hb inv.size n n (Nat.le_refl _) (inv.tail n (Nat.le_refl _) hn) h1).elim
  | succ fuel ih =>
    intro listed a w inv h
    have hne := ready_some (md := md) hb inv.size n n (Nat.le_refl _) (inv.tail n (Nat.le_refl _) hn)
    refine ⟨fun h0 => (hne h0).elim, fun i hi => ?_⟩
    have h2 := h.2 i (by rw [hI.ready]; exact hi)
    obtain ⟨hun, oi, hoi, hall⟩ := mem_ready.1 hi
    by_cases hin : i = n
    · subst hin
      have hready : Region.ready md ops (listed.setIfInBounds i true) = [] := by
        cases hr : Region.ready md ops (listed.setIfInBounds i true) with
        | nil => rfl
        | cons j r =>
          have hj : j ∈ Region.ready md ops (listed.setIfInBounds i true) := by rw [hr]; simp
          obtain ⟨hjun, oj, hoj, hjall⟩ := mem_ready.1 hj
          have hjlt := (Array.getElem?_eq_some_iff.1 hoj).1
          have hjs := hI.size
          by_cases hji : j = i
          · subst hji
            have hsz := inv.size
            have : (listed.setIfInBounds j true).getD j true = true := by simp [hsz, hjlt]
            rw [this] at hjun
            cases hjun
          · rw [getD_set_ne true (Ne.symm hji)] at hjun
            exact (tail_waits hs hc hn inv _ j rfl (by omega) hjun i (Nat.le_refl _) hi).elim
      unfold wpOp at h2 ⊢
      have hw2 : Region.wanted (idleO o) (Go.yielded ops2 a.tmps) = true := by
        have : (idleO o).guard = none := hg
        simp [Region.wanted, this]
      have hw : Region.wanted o (Go.yielded ops a.tmps) = true := by simp [Region.wanted, hg]
      simp only [hI.at2, hw2, if_true] at h2
      simp only [hI.at_, hw, if_true]
      rcases h2 with h2 | ⟨h2, -⟩
      · have h3 := idle_wp hd h2
        have h4 : LastQ P o Q .normal a w := by
          cases fuel with
          | zero => exact h3.2
          | succ f => exact h3.1 (by rw [hI.ready]; exact hready)
        refine .inl (h4 _ (fun a' w' hq => ?_))
        cases fuel with
        | zero => exact ⟨hready, hq⟩
        | succ f => exact ⟨fun _ => hq, by rw [hready]; simp⟩
      · exact (idle_asks h2).elim
    · have hilt : i < n := by
        have := (Array.getElem?_eq_some_iff.1 hoi).1
        have := hI.size
        omega
      unfold wpOp at h2 ⊢
      rw [hI.rest i hin, hI.yielded] at h2
      simp only [hoi] at h2 ⊢
      split
      · rename_i hw
        simp only [hw, if_true] at h2
        rcases h2 with h2 | ⟨h2, h3⟩
        · exact .inl (Oper.wp_mono (fun a' w' hk => ih _ a' w' (inv.set hi hilt) hk) (last_wp h2))
        · exact .inr ⟨h2, h3⟩
      · rename_i hw
        simp only [hw, Bool.false_eq_true, if_false] at h2
        exact ih _ _ w (inv.set hi hilt) h2
end

/-- THE LAW: the region with its last operation idle; then that operation. -/
theorem region_last {P : Program} {id : Nat} {ops : Array Oper} {Q : Exit → Act → World → Prop} {a : Act} {w : World} (S : World → Prop) (n : Nat) (ops2 : Array Oper) (o : Oper) (hI : Idled ops ops2 n o) (hm : P.follows .mixedOrders = true) (hd : o.dst = none) (hg : o.guard = none)
    (hs : Region.sinkB .any ops n = true) (hc : Region.chainB .any ops n = true) (hb : backB ops = true) (hS : S w.drew)
    (h : S w.drew → wpAnyH P .any ops2 (LastQ P o Q) S ops2.size (Array.replicate ops2.size false) a w.drew) : (Code.region id ops true).wp P Q a w := by
  have hsz : ops2.size = ops.size := by rw [hI.size, hI.size2]
  have h1 := h hS
  rw [hsz] at h1
  have hn := hI.size
  exact wp_region_any hm (wpAny_last hI hd hg hs hc hb _ _ _ _ ⟨by simp, fun j oj _ hl => (by rw [getD_replicate_false] at hl; cases hl), fun t _ ht => getD_in (by simpa using ht) (getD_replicate_false _ _)⟩ (wpAny_of_held _ _ _ _ h1))
theorem idled (l : List Oper) (n : Nat) (o : Oper) (h1 : l.length = n + 1) (h2 : l[n]? = some o) : Idled l.toArray (l.set n (idleO o)).toArray n o := by
  refine ⟨by simpa using h1, by simpa using h1, by simpa using h2, ?_, fun i hi => ?_⟩
  · simp [h1]
  · simp [List.getElem?_set_ne (Ne.symm hi)]
end Go.Proofs.YtpnlcogbahjnoaaGreat.F
