/- A log that is appended to, on a disk that never dies. Conditions stand at each theorem. -/
import Derived.Test.YtpnlcogbahjnoaaGreatOpen
import Derived.Test.YtpnlcogbahjnoaaGreatPure
namespace Go.Proofs.YtpnlcogbahjnoaaGreat.F
open Go.RowKit Go.Proofs.YtpnlcogbahjnoaaGreat.M
set_option linter.unusedVariables false

def Small (l : List (List UInt8)) : Prop := l.length ≤ 50 ∧ ∀ r ∈ l, r.length ≤ 200
theorem encRecs_small (l : List (List UInt8)) (h : ∀ r ∈ l, r.length ≤ 200) : (encRecs l).length ≤ 206 * l.length := by
  induction l with
  | nil => simp [encRecs]
  | cons r l ih =>
    have h1 := ih (fun r hr => h r (by simp [hr]))
    have h2 := h r (by simp)
    have h3 := encNum_len 5 r.length (by omega)
    simp [encRecs] at h1 ⊢
    omega
theorem Small.body_len {l : List (List UInt8)} (h : Small l) : (body l).length ≤ 10306 := by
  have h1 := encRecs_small l h.2
  have h2 := encNum_len 5 l.length (by have := h.1; omega)
  have h3 := h.1
  simp [body]
  omega
theorem Small.fits {l : List (List UInt8)} (h : Small l) : Fits l := by
  have := h.body_len
  unfold Fits
  omega
theorem Small.frame_le {l : List (List UInt8)} (h : Small l) : (frame (body l)).length ≤ 20000 := by
  have := h.body_len
  rw [frame_len]
  omega
theorem fileOf_len (ls : List (List (List UInt8))) (h : ∀ l ∈ ls, Small l) : (fileOf ls).length ≤ 20000 * ls.length := by
  induction ls with
  | nil => simp [fileOf]
  | cons l ls ih =>
    have h1 := ih (fun l hl => h l (by simp [hl]))
    have h2 := (h l (by simp)).frame_le
    by_cases hl : l = []
    · subst hl
      have e : fileOf ([] :: ls) = fileOf ls := by simp [fileOf]
      rw [e]
      simp
      omega
    · have e : fileOf (l :: ls) = frame (body l) ++ fileOf ls := by simp [fileOf, hl]
      rw [e]
      simp
      omega
theorem flat_len (ls : List (List (List UInt8))) (h : ∀ l ∈ ls, Small l) : ls.flatten.length ≤ 50 * ls.length := by
  induction ls with
  | nil => simp
  | cons l ls ih =>
    have h1 := ih (fun l hl => h l (by simp [hl]))
    have h2 := (h l (by simp)).1
    simp at h1 ⊢
    omega

/-- log p at disk f has been appended the lists ls, ever since world W -/
structure LJ (W w : World) (f b p : Nat) (ls : List (List (List UInt8))) : Prop where
  low : Below W.heap.size W w
  fN : W.heap.size ≤ f
  bN : W.heap.size ≤ b
  disk : ∃ (m : Nat) (st : Int), Files w f b m (one [114] (fileOf ls) (fileOf ls).length) st (-1) false ∧ m ≤ 2 * ls.length + 2 ∧ 0 ≤ st ∧ st ≤ 2 * ls.length + 2
  log : LogAt w W.heap.size p f ⟨#[114]⟩ ls.flatten
  fit : ∀ l ∈ ls, Small l
theorem LJ.below {W w w' : World} {f b p : Nat} {ls : List (List (List UInt8))} (h : LJ W w f b p ls) (hb : Below w.heap.size w w') : LJ W w' f b p ls := by
  obtain ⟨m, st, h1, h2⟩ := h.disk
  exact { h with low := h.low.trans (hb.mono h.low.size), disk := ⟨m, st, h1.below hb, h2⟩, log := h.log.below hb }

theorem lj_create {W w : World} (hw : Below W.heap.size W w) {f b : Nat} (hf : W.heap.size ≤ f) (hb : W.heap.size ≤ b) (h : Files w f b 0 (fun _ => none) 0 (-1) false) :
    Calls Tryz.prog 8 #[.pointer (some ⟨f, 0, none⟩), .string ⟨#[114]⟩] w fun e w' => ∃ p, e = .returned (.tuple #[.pointer (some ⟨p, 0, none⟩), .int .i64 0]) ∧ LJ W w' f b p [] := by
  refine (create_any w f b 0 h ⟨#[114]⟩ [114] rfl rfl (by omega)).mono ?_
  rintro e w' ⟨p, rfl, hl, hF, hfr⟩
  obtain ⟨lv, hv⟩ := hl.v
  refine ⟨p, rfl, ⟨hw.trans (hfr.below hw.size (by rintro k (rfl | rfl) <;> assumption)), hf, hb, ⟨_, _, hF, by simp, by omega, by simp⟩, ?_, by simp⟩⟩
  obtain ⟨h1, lv, h2, h3⟩ := hl
  exact ⟨Nat.le_trans hw.size h1, lv, h2, h3.mono hw.size⟩

theorem lj_app' {W w : World} {f b p : Nat} {ls : List (List (List UInt8))} (h : LJ W w f b p ls) (hls : ls.length ≤ 1000) (v : Value) (new : List (List UInt8)) (hs : Small new)
    (hv : Hid (∀ lv w', LogV w W.heap.size p f ⟨#[114]⟩ lv ls.flatten → Fr (LSv f b p lv) w w' → Recs w' v new)) :
    Calls Tryz.prog 12 #[.pointer (some ⟨p, 0, none⟩), v] w fun e w' => e = .returned (.int .i64 0) ∧ LJ W w' f b p (ls ++ [new]) := by
  obtain ⟨m, st, hF, hm, hs0, hs1⟩ := h.disk
  obtain ⟨lv, hlv⟩ := h.log.v
  have hfit : ∀ l ∈ ls ++ [new], Small l := by
    intro l hl
    rcases List.mem_append.1 hl with hl | hl
    · exact h.fit l hl
    · obtain rfl : l = new := by simpa using hl
      exact hs
  by_cases hne : new = []
  · subst hne
    obtain ⟨a, cap, rfl, -, -⟩ := (hv.out lv w hlv (Fr.refl _ _)).shape
    refine (logapp_nil w _ p f _ _ h.log a cap).mono ?_
    rintro e w' ⟨rfl, rfl⟩
    have e1 : fileOf (ls ++ [[]]) = fileOf ls := by rw [fileOf_append]; simp [fileOf]
    exact ⟨rfl, ⟨h.low, h.fN, h.bN, ⟨m, st, by rw [e1]; exact hF, by simp; omega, hs0, by simp; omega⟩, by simpa using h.log, hfit⟩⟩
  · have hfl := fileOf_len ls h.fit
    have hfl2 := flat_len ls h.fit
    refine (logapp_ok w W.heap.size p f b m st [114] (fileOf ls) _ (-1) (by decide) (by decide) (by omega) hF ⟨#[114]⟩ rfl rfl lv ls.flatten hlv h.low.size v new (Lib.hid (fun w' hf => hv.out lv w' hlv hf)) hne hs.fits (by omega) (by omega) (by omega) hs0 (by omega)).mono ?_
    rintro e w' ⟨rfl, hF', ⟨lv', hl', -⟩, hfr⟩
    have e1 : fileOf (ls ++ [new]) = fileOf ls ++ frame (body new) := by rw [fileOf_append, fileOf_one _ hne]
    refine ⟨rfl, ⟨h.low.trans (hfr.below h.low.size (hlv.base_le h.fN h.bN)), h.fN, h.bN, ⟨m + 2, st + 2, by rw [e1]; exact hF', by simp; omega, by omega, by simp; omega⟩, ?_, hfit⟩⟩
    have := hl'.at_
    simpa using this
theorem lj_app {W w : World} {f b p : Nat} {ls : List (List (List UInt8))} (h : LJ W w f b p ls) (hls : ls.length ≤ 1000) (v : Value) (new : List (List UInt8)) (hs : Small new) (hv : Recs W v new) :
    Calls Tryz.prog 12 #[.pointer (some ⟨p, 0, none⟩), v] w fun e w' => e = .returned (.int .i64 0) ∧ LJ W w' f b p (ls ++ [new]) :=
  lj_app' h hls v new hs (Lib.hid (fun lv w' hlv hf => hv.old (h.low.trans (hf.below h.low.size (hlv.base_le h.fN h.bN))) (Nat.le_refl _)))
end Go.Proofs.YtpnlcogbahjnoaaGreat.F
