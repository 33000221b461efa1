/- A disk with one file; chapter 12's 'awake'. Conditions stand at each theorem. -/
import Derived.Test.YtpnlcogbahjnoaaGreatCrash
import Derived.Test.YtpnlcogbahjnoaaGreatRef1
namespace Go.Proofs.YtpnlcogbahjnoaaGreat.F
open Go.RowKit Go.Proofs.YtpnlcogbahjnoaaGreat.M
set_option linter.unusedVariables false

def one (k : List UInt8) (bs : List UInt8) (l : Nat) : Disk := fun k' => if k' = k then some (bs, l) else none
theorem one_cb (k bs : List UInt8) (l : Nat) : cb (one k bs l) k = bs := by simp [cb, one]
theorem one_cl (k bs : List UInt8) (l : Nat) : cl (one k bs l) k = l := by simp [cl, one]
theorem one_at (k bs : List UInt8) (l : Nat) : one k bs l k = some (bs, l) := by simp [one]
theorem one_len (k bs : List UInt8) (l : Nat) (h : bs.length ≤ 1099511627776) : ∀ k', (cb (one k bs l) k').length ≤ 1099511627776 := by
  intro k'
  by_cases hk : k' = k
  · subst hk; rw [one_cb]; exact h
  · simp [cb, one, hk]
theorem upd_one (k bs bs' : List UInt8) (l l' : Nat) : upd (one k bs l) k (some (bs', l')) = one k bs' l' := by
  funext k'
  by_cases hk : k' = k <;> simp [upd, one, hk]
theorem upd_none (k bs' : List UInt8) (l' : Nat) : upd (fun _ => none) k (some (bs', l')) = one k bs' l' := by
  funext k'
  by_cases hk : k' = k <;> simp [upd, one, hk]
theorem crash_one (k bs : List UInt8) (l : Nat) (ss : List (List UInt8)) (ks : List Int) (h1 : ∀ x, x ∈ ss ↔ (one k bs l x).isSome = true) (h2 : ss.Nodup) :
    crashD (one k bs l) ss ks = one k (bs.take (l + cutN ks 0 bs l)) (l + cutN ks 0 bs l) := by
  have hs : ss = [k] := by
    have hall : ∀ x ∈ ss, x = k := fun x hx => by
      have := (h1 x).1 hx
      by_cases hk : x = k
      · exact hk
      · simp [one, hk] at this
    have hk : k ∈ ss := (h1 k).2 (by simp [one])
    cases ss with
    | nil => simp at hk
    | cons a r =>
      have ha := hall a (by simp)
      subst ha
      cases r with
      | nil => rfl
      | cons c r =>
        have hc := hall c (by simp)
        subst hc
        simp at h2
  subst hs
  funext k'
  by_cases hk : k' = k
  · subst hk; simp [crashD, one]
  · simp [crashD, one, hk]

theorem app0 (w : World) (f b m : Nat) (st : Int) (h : Files w f b m (fun _ => none) st (-1) false) (s : ByteArray) (k : List UInt8) (hk : s.data.toList = k) (hn : named k = true) (v : Value) (cs : List UInt8) (hv : Bytes w v cs) (hl : cs.length ≤ 1099511627776)
    (hm : m ≤ 1099511627776) (h1 : 0 ≤ st) (h2 : st ≤ 1099511627776) :
    Calls Tryz.prog 25 #[.pointer (some ⟨f, 0, none⟩), .string s, v] w fun e w' => e = .returned (.int .i64 0) ∧ Files w' f b (m + 1) (one k cs 0) (st + 1) (-1) false ∧ Fr (fun k => k = f ∨ k = b) w w' := by
  subst hk
  refine (append_ok w f b m _ st (-1) h s hn v cs hv (by simpa [cb] using hl) hm h1 h2 (by omega)).mono ?_
  rintro e w' ⟨rfl, hF, hG⟩
  have e1 : cb (fun _ => none) s.data.toList = [] := rfl
  have e2 : cl (fun _ => none) s.data.toList = 0 := rfl
  rw [e1, e2, List.nil_append, upd_none] at hF
  exact ⟨rfl, hF, hG⟩
theorem app1 (w : World) (f b m : Nat) (st : Int) (k bs : List UInt8) (l : Nat) (h : Files w f b m (one k bs l) st (-1) false) (s : ByteArray) (hk : s.data.toList = k) (hn : named k = true) (v : Value) (cs : List UInt8) (hv : Bytes w v cs) (hl : bs.length + cs.length ≤ 1099511627776)
    (hm : m ≤ 1099511627776) (h1 : 0 ≤ st) (h2 : st ≤ 1099511627776) :
    Calls Tryz.prog 25 #[.pointer (some ⟨f, 0, none⟩), .string s, v] w fun e w' => e = .returned (.int .i64 0) ∧ Files w' f b (m + 1) (one k (bs ++ cs) l) (st + 1) (-1) false ∧ Fr (fun k => k = f ∨ k = b) w w' := by
  subst hk
  refine (append_ok w f b m _ st (-1) h s hn v cs hv (by rw [one_cb]; exact hl) hm h1 h2 (by omega)).mono ?_
  rintro e w' ⟨rfl, hF, hG⟩
  rw [one_cb, one_cl, upd_one] at hF
  exact ⟨rfl, hF, hG⟩
theorem syn1 (w : World) (f b m : Nat) (st : Int) (k bs : List UInt8) (l : Nat) (h : Files w f b m (one k bs l) st (-1) false) (s : ByteArray) (hk : s.data.toList = k) (hn : named k = true) 
    (hm : m ≤ 1099511627776) (h1 : 0 ≤ st) (h2 : st ≤ 1099511627776) :
    Calls Tryz.prog 26 #[.pointer (some ⟨f, 0, none⟩), .string s] w fun e w' => e = .returned (.int .i64 0) ∧ Files w' f b (m + 1) (one k bs bs.length) (st + 1) (-1) false ∧ Fr (fun k => k = f ∨ k = b) w w' := by
  subst hk
  have hs : s.size ≤ maxLen := by
    have : s.data.toList.length ≤ 24 := by simp [named] at hn ⊢; omega
    simp at this
    simp only [maxLen]; omega
  refine (sync_ok w f b m _ st (-1) h s hs bs l (one_at _ _ _) hm h1 h2 (by omega)).mono ?_
  rintro e w' ⟨rfl, hF, hG⟩
  have e1 : ifz (-1) (one s.data.toList bs l) (upd (one s.data.toList bs l) s.data.toList (some (bs, bs.length))) = one s.data.toList bs bs.length := by
    rw [upd_one]; rfl
  rw [e1] at hF
  exact ⟨rfl, hF, hG⟩
theorem crash1 (w : World) (f b m : Nat) (st fu : Int) (dead : Bool) (k bs : List UInt8) (l : Nat) (h : Files w f b m (one k bs l) st fu dead) (hl : bs.length ≤ 1099511627776) (hm : m ≤ 1099511627776)
    (kv : Value) (ks : List Int) (hkv : Reads w 1 kv ks.length (ks.map (.int .i64))) (hks : ∀ x ∈ ks, -9223372036854775808 ≤ x ∧ x ≤ 9223372036854775807) :
    Calls Tryz.prog 19 #[.pointer (some ⟨f, 0, none⟩), kv] w fun e w' => ∃ f' b', e = .returned (.pointer (some ⟨f', 0, none⟩)) ∧ w.heap.size ≤ f' ∧ w.heap.size ≤ b' ∧
      Files w' f' b' m (one k (bs.take (l + cutN ks 0 bs l)) (l + cutN ks 0 bs l)) 0 (-1) false ∧ Below w.heap.size w w' := by
  refine (crash_any w f b m _ st fu dead h hm (one_len _ _ _ hl) kv ks hkv hks).mono ?_
  rintro e w' ⟨f', b', ss, rfl, h1, h2, h3, h4, h5, h6⟩
  rw [crash_one k bs l ss ks h3 h4] at h5
  exact ⟨f', b', rfl, h1, h2, h5, h6⟩
theorem read1 (w : World) (f b m : Nat) (st fu : Int) (dead : Bool) (k bs : List UInt8) (l : Nat) (h : Files w f b m (one k bs l) st fu dead) (hl : bs.length ≤ 1099511627776) (s : ByteArray) (hk : s.data.toList = k) (hs : s.size ≤ maxLen) :
    Calls Tryz.prog 23 #[.pointer (some ⟨f, 0, none⟩), .string s] w fun e w' => ∃ v', e = .returned (.tuple #[v', .bool true]) ∧ OwnZ w' w.heap.size 5 1 v' bs.length (bs.map u8) ∧ Below w.heap.size w w' := by
  subst hk
  refine (read_any w f b m _ st fu dead h s hs (by rw [one_cb]; exact hl)).mono ?_
  rintro e w' ⟨v', rfl, h1, h2⟩
  rw [one_cb] at h1
  exact ⟨v', by simp [one], h1, h2⟩

theorem ints_lit {w : World} {g : Nat} {t : TypeId} {fz : Nat × Nat} {cur : Array Value} (ks : List Int) (h : w.heap[g]? = some (.cells cur t fz)) (hc : cur = (ks.map (.int .i64)).toArray) (hl : ks.length ≤ 1099511627776) :
    Reads w 1 (.slice (some ⟨g, 0, none⟩) ks.length ks.length) ks.length (ks.map (.int .i64)) := by
  subst hc
  refine ⟨by simp, .inr ⟨⟨g, 0, none⟩, ks.length, rfl, Nat.le_refl _, by simp only [maxLen]; omega, fun j u hj => ⟨rfl, ?_⟩⟩⟩
  rw [cell_at h, Nat.zero_add]
  simpa using hj

end Go.Proofs.YtpnlcogbahjnoaaGreat.F
