/- The program's disk and log and the reference's, side by side: Create, fuses, Append, Crash, Open; lists of numbers as arguments. Conditions stand at each theorem. -/
import Derived.Test.YtpnlcogbahjnoaaGreatCuts
import Derived.Test.YtpnlcogbahjnoaaGreatQLogApp
import Derived.Test.YtpnlcogbahjnoaaGreatQCrash
namespace Go.Proofs.YtpnlcogbahjnoaaGreat.F
open Go.RowKit Go.Proofs.YtpnlcogbahjnoaaGreat.M
set_option linter.unusedVariables false

theorem ORecs.fr2 {S : Nat → Prop} {w w' : World} {base : Nat} {v : Value} {rs : List (List UInt8)} (h : ORecs w base v rs) (hf : Fr S w w') (ho : ∀ k, v.ownBlock = some k → ¬ S k) (hs : ∀ k, S k → ¬ Tag w k 5) : ORecs w' base v rs := by
  obtain ⟨vs, h1, h2⟩ := h
  exact ⟨vs, h1.fr hf ho, h2.fr hf hs⟩
theorem LogV.fr2 {S : Nat → Prop} {w w' : World} {base p f : Nat} {s : ByteArray} {lv : Value} {rs : List (List UInt8)} (h : LogV w base p f s lv rs) (hf : Fr S w w') (hp : ¬ S p) (ho : ∀ k, lv.ownBlock = some k → ¬ S k) (hs : ∀ k, S k → ¬ Tag w k 5) : LogV w' base p f s lv rs :=
  ⟨h.1, hf.obj h.2.1 hp, h.2.2.fr2 hf ho hs⟩
theorem QLogV.fr2 {S : Nat → Prop} {w w' : World} {base p g : Nat} {s : ByteArray} {lv : Value} {rs : List (List UInt8)} (h : QLogV w base p g s lv rs) (hf : Fr S w w') (hp : ¬ S p) (ho : ∀ k, lv.ownBlock = some k → ¬ S k) (hs : ∀ k, S k → ¬ Tag w k 5) : QLogV w' base p g s lv rs :=
  ⟨h.1, hf.obj h.2.1 hp, h.2.2.fr2 hf ho hs⟩
theorem LogV.below {w w' : World} {base p f : Nat} {s : ByteArray} {lv : Value} {rs : List (List UInt8)} (h : LogV w base p f s lv rs) (hb : Below w.heap.size w w') : LogV w' base p f s lv rs :=
  h.fr2 (Fr.of_below (S := fun _ => False) hb) id (fun _ _ => id) (fun _ h => h.elim)
theorem QLogV.below {w w' : World} {base p g : Nat} {s : ByteArray} {lv : Value} {rs : List (List UInt8)} (h : QLogV w base p g s lv rs) (hb : Below w.heap.size w w') : QLogV w' base p g s lv rs :=
  h.fr2 (Fr.of_below (S := fun _ => False) hb) id (fun _ _ => id) (fun _ h => h.elim)
theorem LogV.tag {w : World} {base p f : Nat} {s : ByteArray} {lv : Value} {rs : List (List UInt8)} (h : LogV w base p f s lv rs) : Tag w p 61 := ⟨_, _, h.2.1⟩
theorem QLogV.tag {w : World} {base p g : Nat} {s : ByteArray} {lv : Value} {rs : List (List UInt8)} (h : QLogV w base p g s lv rs) : Tag w p 44 := ⟨_, _, h.2.1⟩

/-- two disks and two logs, the program's and the reference's, that are alike: the file's bytes x, of which l last; the records rs -/
structure PJ (W w : World) (f b p g h o cap q : Nat) (fu st : Int) (dead : Bool) (M : Nat) (x : List UInt8) (l : Nat) (rs : List (List UInt8)) : Prop where
  low : Below W.heap.size W w
  fN : W.heap.size ≤ f
  bN : W.heap.size ≤ b
  gN : W.heap.size ≤ g
  hN : W.heap.size ≤ h
  capN : 1 ≤ cap
  disk : ∃ m, m ≤ M ∧ Files w f b m (one [114] x l) st fu dead
  stN : 0 ≤ st
  stM : st ≤ M
  fuN : fu ≤ 9223372036854775807
  qd : QD w g (.slice (some ⟨h, o, none⟩) 1 cap) st (max fu (-1)) dead
  qf : QFile w h o ⟨#[114]⟩ x l
  logs : ∃ lv lv', LogV w W.heap.size p f ⟨#[114]⟩ lv rs ∧ QLogV w W.heap.size q g ⟨#[114]⟩ lv' rs ∧ ∀ k, lv.ownBlock = some k → lv'.ownBlock ≠ some k
theorem PJ.below {W w w' : World} {f b p g h o cap q : Nat} {fu st : Int} {dead : Bool} {M : Nat} {x : List UInt8} {l : Nat} {rs : List (List UInt8)} (J : PJ W w f b p g h o cap q fu st dead M x l rs) (hb : Below w.heap.size w w') : PJ W w' f b p g h o cap q fu st dead M x l rs := by
  obtain ⟨m, hm, hF⟩ := J.disk
  obtain ⟨lv, lv', h1, h2, h3⟩ := J.logs
  exact { J with low := J.low.trans (hb.mono J.low.size), disk := ⟨m, hm, hF.below hb⟩, qd := J.qd.below hb, qf := J.qf.below hb, logs := ⟨lv, lv', h1.below hb, h2.below hb, h3⟩ }

/-- what the program's Append turns is nothing of the reference's -/
theorem lsv_not {w : World} {f b m p base : Nat} {C : Disk} {st fu : Int} {dead : Bool} {s : ByteArray} {lv : Value} {rs : List (List UInt8)} (hF : Files w f b m C st fu dead) (hl : LogV w base p f s lv rs) {k : Nat} {t : TypeId} (ht : Tag w k t) (h1 : t ≠ 55) (h2 : t ≠ 61) (h3 : t ≠ 52 ∨ lv.ownBlock ≠ some k) : ¬ LSv f b p lv k := by
  rintro (hh | hh | hh)
  · exact files_apart hF t h1 k hh ht
  · subst hh; exact tag_ne ht hl.tag h2 rfl
  · rcases h3 with h3 | h3
    · exact tag_ne ht (hl.2.2.tag hh).1 h3 rfl
    · exact h3 hh
theorem qlsv_not {w : World} {g h o p base : Nat} {L : Value} {st fu : Int} {dead : Bool} {s s' : ByteArray} {x : List UInt8} {l : Nat} {lv : Value} {rs : List (List UInt8)} (hD : QD w g L st fu dead) (hf : QFile w h o s' x l) (hl : QLogV w base p g s lv rs) {k : Nat} {t : TypeId} (ht : Tag w k t) (h1 : t ≠ 48) (h1' : t ≠ 76) (h2 : t ≠ 44) (h3 : t ≠ 52 ∨ lv.ownBlock ≠ some k) : ¬ LSv g h p lv k := by
  rintro (hh | hh | hh)
  · exact qd_apart hD hf t h1 h1' k hh ht
  · subst hh; exact tag_ne ht hl.tag h2 rfl
  · rcases h3 with h3 | h3
    · exact tag_ne ht (hl.2.2.tag hh).1 h3 rfl
    · exact h3 hh
theorem qlsv_not_map {w : World} {f b m : Nat} {C : Disk} {stp fup : Int} {deadp : Bool} (hF : Files w f b m C stp fup deadp) {g h o p base : Nat} {L : Value} {st fu : Int} {dead : Bool} {s s' : ByteArray} {x : List UInt8} {l : Nat} {lv : Value} {rs : List (List UInt8)} (hD : QD w g L st fu dead) (hf : QFile w h o s' x l) (hl : QLogV w base p g s lv rs) : ¬ LSv g h p lv b := by
  rintro ((hh | hh) | hh | hh)
  · exact hF.not_tag _ (hh ▸ hD.tag)
  · exact hF.not_tag _ (hh ▸ hf.tag)
  · exact hF.not_tag _ (hh ▸ hl.tag)
  · exact hF.not_tag _ (hl.2.2.tag hh).1

/-- a step of the program's: what is the reference's stays -/
theorem pj_mid {W w w1 : World} {f b m p g h o base : Nat} {C : Disk} {st fu : Int} {dead : Bool} {s s' : ByteArray} {lv lv' : Value} {rs rs' : List (List UInt8)} {q : Nat} {L : Value} {st' fu' : Int} {dead' : Bool} {x : List UInt8} {l : Nat}
    (hF : Files w f b m C st fu dead) (hl : LogV w base p f s lv rs) (hD : QD w g L st' fu' dead') (hf : QFile w h o s' x l) (hq : QLogV w base q g s' lv' rs') (hap : ∀ k, lv.ownBlock = some k → lv'.ownBlock ≠ some k) (hfr : Fr (LSv f b p lv) w w1) :
    QD w1 g L st' fu' dead' ∧ QFile w1 h o s' x l ∧ QLogV w1 base q g s' lv' rs' := by
  have n8 : ∀ k, LSv f b p lv k → ¬ Tag w k 5 := fun k hk ht => lsv_not hF hl ht (by decide) (by decide) (.inl (by decide)) hk
  exact ⟨hD.fr hfr (lsv_not hF hl hD.tag (by decide) (by decide) (.inl (by decide))), hf.fr hfr (lsv_not hF hl hf.tag (by decide) (by decide) (.inl (by decide))) n8,
    hq.fr2 hfr (lsv_not hF hl hq.tag (by decide) (by decide) (.inl (by decide))) (fun k hk => lsv_not hF hl (hq.2.2.tag hk).1 (by decide) (by decide) (.inr (fun hh => hap k hh hk))) n8⟩
/-- a step of the reference's: what is the program's stays -/
theorem pj_end {w w1 : World} {f b m p g h o base : Nat} {C : Disk} {st fu : Int} {dead : Bool} {s s' : ByteArray} {lv lv' : Value} {rs rs' : List (List UInt8)} {q : Nat} {L : Value} {st' fu' : Int} {dead' : Bool} {x : List UInt8} {l : Nat}
    (hF : Files w f b m C st fu dead) (hl : LogV w base p f s lv rs) (hD : QD w g L st' fu' dead') (hf : QFile w h o s' x l) (hq : QLogV w base q g s' lv' rs') (hap : ∀ k, lv.ownBlock = some k → lv'.ownBlock ≠ some k) (hfr : Fr (LSv g h q lv') w w1) :
    Files w1 f b m C st fu dead ∧ LogV w1 base p f s lv rs := by
  have n8 : ∀ k, LSv g h q lv' k → ¬ Tag w k 5 := fun k hk ht => qlsv_not hD hf hq ht (by decide) (by decide) (by decide) (.inl (by decide)) hk
  exact ⟨hF.fr hfr (qlsv_not hD hf hq hF.tag (by decide) (by decide) (by decide) (.inl (by decide))) (qlsv_not_map hF hD hf hq) n8,
    hl.fr2 hfr (qlsv_not hD hf hq hl.tag (by decide) (by decide) (by decide) (.inl (by decide))) (fun k hk => qlsv_not hD hf hq (hl.2.2.tag hk).1 (by decide) (by decide) (by decide) (.inr (fun hh => hap k hk hh))) n8⟩

/-- both fuses are set alike -/
theorem pj_fuse {W w : World} {f b p g h o cap q : Nat} {fu st : Int} {M : Nat} {x : List UInt8} {l : Nat} {rs : List (List UInt8)} (J : PJ W w f b p g h o cap q fu st false M x l rs) (n : Int) (hn : n ≤ 9223372036854775807) :
    Calls Tryz.prog 10 #[.pointer (some ⟨f, 0, none⟩), .int .i64 n] w fun e w1 => e = .returned (.tuple #[]) ∧ Below W.heap.size W w1 ∧
      Hid (Calls Tryz.prog 11 #[.pointer (some ⟨g, 0, none⟩), .int .i64 n] w1 fun e w2 => e = .returned (.tuple #[]) ∧ PJ W w2 f b p g h o cap q n st false M x l rs) := by
  obtain ⟨m, hm, hF⟩ := J.disk
  obtain ⟨lv, lv', hl, hq, hap⟩ := J.logs
  refine (fuse_on w f b m _ st fu n hF).mono ?_
  rintro e w1 ⟨rfl, hF1, hf1⟩
  have hS : Fr (LSv f b p lv) w w1 := hf1.mono (fun _ _ h => .inl (.inl h))
  obtain ⟨hD1, hQ1, hq1⟩ := pj_mid (W := W) hF hl J.qd J.qf hq hap hS
  have hl1 : LogV w1 W.heap.size p f ⟨#[114]⟩ lv rs := hl.fr2 hf1 (by rintro rfl; exact tag_ne hl.tag hF.tag (by decide) rfl) (by rintro k hk rfl; exact tag_ne (hl.2.2.tag hk).1 hF.tag (by decide) rfl) (by rintro k rfl ht; exact tag_ne ht hF.tag (by decide) rfl)
  have low1 : Below W.heap.size W w1 := J.low.trans (hf1.below J.low.size (by rintro k rfl; exact J.fN))
  refine ⟨rfl, low1, Lib.hid ?_⟩
  refine (qarm_any w1 g _ st _ hD1 n).mono ?_
  rintro e w2 ⟨rfl, hD2, hf2⟩
  have hS2 : Fr (LSv g h q lv') w1 w2 := hf2.mono (fun _ _ h => .inl (.inl h))
  obtain ⟨hF2, hl2⟩ := pj_end hF1 hl1 hD1 hQ1 hq1 hap hS2
  have hQ2 := hQ1.fr hf2 (tag_ne hQ1.tag hD1.tag (by decide)) (by rintro k rfl ht; exact tag_ne ht hD1.tag (by decide) rfl)
  have hq2 := hq1.fr2 hf2 (tag_ne hq1.tag hD1.tag (by decide)) (fun k hk => tag_ne (hq1.2.2.tag hk).1 hD1.tag (by decide)) (by rintro k rfl ht; exact tag_ne ht hD1.tag (by decide) rfl)
  exact ⟨rfl, { J with low := low1.trans (hf2.below low1.size (by rintro k rfl; exact J.gN)), disk := ⟨m, hm, hF2⟩, fuN := hn, qd := hD2, qf := hQ2, logs := ⟨lv, lv', hl2, hq2, hap⟩ }⟩

/-- records that are few and small -/
def RsOk (rs : List (List UInt8)) : Prop := rs.length ≤ 1073741824 ∧ ∀ (i : Nat) (r : List UInt8), rs[i]? = some r → r.length ≤ 1099511627776
theorem rsok {ls : List (List (List UInt8))} (h : ∀ l ∈ ls, Small l) (hl : ls.length ≤ 200) : RsOk ls.flatten := by
  refine ⟨by have := flat_len ls h; omega, fun i r hi => ?_⟩
  obtain ⟨l, h1, h2⟩ := List.mem_flatten.1 (List.mem_of_getElem? hi)
  have := (h l h1).2 r h2
  omega
/-- what an Append leaves -/
def PApp (W w : World) (f b p g h o cap q M : Nat) (ls : List (List (List UInt8))) (new : List (List UInt8)) : Prop :=
  ∃ (fu st : Int) (dead : Bool) (x : List UInt8) (l : Nat) (rs : List (List UInt8)), PJ W w f b p g h o cap q fu st dead (M + 2) x l rs ∧ x = fileOf (ls ++ [new]) ∧ RsOk rs ∧ ((dead = false ∧ l = x.length ∧ rs = (ls ++ [new]).flatten) ∨ (dead = true ∧ l = (fileOf ls).length))

set_option maxHeartbeats 1000000 in
theorem pj_app {W w : World} {f b p g h o cap q : Nat} {fu st : Int} {M : Nat} {ls : List (List (List UInt8))} (J : PJ W w f b p g h o cap q fu st false M (fileOf ls) (fileOf ls).length ls.flatten) (hM : M ≤ 1000) (hsm : ∀ l ∈ ls, Small l) (hls : ls.length ≤ 150)
    (v : Value) (new : List (List UInt8)) (hs : Small new) (hv : Recs W v new) :
    Calls Tryz.prog 12 #[.pointer (some ⟨p, 0, none⟩), v] w fun e w1 => ∃ E : Int, e = .returned (.int .i64 E) ∧ Below W.heap.size W w1 ∧
      Hid (Calls Tryz.prog 13 #[.pointer (some ⟨q, 0, none⟩), v] w1 fun e w2 => e = .returned (.int .i64 E) ∧ PApp W w2 f b p g h o cap q M ls new) := by
  obtain ⟨m, hm, hF⟩ := J.disk
  obtain ⟨lv, lv', hl, hq, hap⟩ := J.logs
  have hfl := fileOf_len ls hsm
  have hfl2 := flat_len ls hsm
  have hst0 := J.stN
  have hstM := J.stM
  have hfuN := J.fuN
  have hlow : ∀ w', Fr (LSv f b p lv) w w' → Below W.heap.size W w' := fun w' hf => J.low.trans (hf.below J.low.size (hl.base_le J.fN J.bN))
  have hvS : Hid (∀ w', Fr (LSv f b p lv) w w' → Recs w' v new) := Lib.hid (fun w' hf => hv.old (hlow w' hf) (Nat.le_refl _))
  have hsm' : ∀ l ∈ ls ++ [new], Small l := by
    intro l hl
    rcases List.mem_append.1 hl with hl | hl
    · exact hsm l hl
    · obtain rfl : l = new := by simpa using hl
      exact hs
  have hok := rsok hsm (by omega)
  have hok' := rsok hsm' (by simp; omega)
  by_cases hne : new = []
  · subst hne
    obtain ⟨a, vcap, rfl, -, -⟩ := hv.shape
    refine (logapp_nil w _ p f _ _ hl.at_ a vcap).mono ?_
    rintro e w1 ⟨rfl, rfl⟩
    refine ⟨0, rfl, J.low, Lib.hid ?_⟩
    refine (qlogapp_nil w1 q a vcap).mono ?_
    rintro e w2 ⟨rfl, rfl⟩
    have e1 : fileOf (ls ++ [[]]) = fileOf ls := by rw [fileOf_append]; simp [fileOf]
    refine ⟨rfl, fu, st, false, _, _, _, { J with disk := ⟨m, by omega, hF⟩, stM := by omega }, e1.symm, hok, .inl ⟨rfl, rfl, by simp⟩⟩
  · have e1 : fileOf (ls ++ [new]) = fileOf ls ++ frame (body new) := by rw [fileOf_append, fileOf_one _ hne]
    by_cases h0 : fu = 0
    · subst h0
      refine (logapp_dead1 w W.heap.size p f b m st [114] (fileOf ls) _ hF ⟨#[114]⟩ rfl rfl lv ls.flatten hl J.low.size v new hvS hne hs.fits (by omega) (by omega) (by omega) hst0 (by omega)).mono ?_
      rintro e w1 ⟨rfl, hF1, hfr1⟩
      have hS := hfr1.mono (S' := LSv f b p lv) (fun _ _ h => .inl h)
      have low1 := hlow w1 hS
      obtain ⟨hD1, hQ1, hq1⟩ := pj_mid (W := W) hF hl J.qd J.qf hq hap hS
      have fap := fun t ht => files_apart hF t ht
      have hl1 := hl.fr2 hfr1 (fun hh => fap _ (by decide) p hh hl.tag) (fun k hk hh => fap _ (by decide) k hh (hl.2.2.tag hk).1) (fun k hk => fap _ (by decide) k hk)
      refine ⟨7, rfl, low1, Lib.hid ?_⟩
      refine (qlogapp_dead1 w1 W.heap.size q g h o cap st (fileOf ls) _ hD1 J.capN ⟨#[114]⟩ (by decide) (by decide) hQ1 lv' ls.flatten hq1 low1.size v new (Lib.hid (fun w' hf => hv.old (low1.trans (hf.below low1.size (hq1.base_le J.gN J.hN))) (Nat.le_refl _))) hne hs.fits (by omega) (by omega) hst0 (by omega)).mono ?_
      rintro e w2 ⟨rfl, hD2, hQ2, hfr2⟩
      obtain ⟨hF2, hl2⟩ := pj_end hF1 hl1 hD1 hQ1 hq1 hap (hfr2.mono (S' := LSv g h q lv') (fun _ _ h => .inl h))
      have qap := fun t h1 h2 => qd_apart hD1 hQ1 t h1 h2
      have hq2 := hq1.fr2 hfr2 (fun hh => qap _ (by decide) (by decide) q hh hq1.tag) (fun k hk hh => qap _ (by decide) (by decide) k hh (hq1.2.2.tag hk).1) (fun k hk => qap _ (by decide) (by decide) k hk)
      refine ⟨rfl, stepF 0, st + 1, true, _, _, _, { J with low := low1.trans (hfr2.below low1.size (by rintro k (rfl | rfl); exact J.gN; exact J.hN)), disk := ⟨m + 1, by omega, hF2⟩, stN := by omega, stM := by omega, fuN := by decide, qd := hD2, qf := hQ2, logs := ⟨lv, lv', hl2, hq2, hap⟩ }, e1.symm, hok, .inr ⟨rfl, rfl⟩⟩
    · by_cases h1 : fu = 1
      · subst h1
        refine (logapp_dead2 w W.heap.size p f b m st [114] (fileOf ls) _ hF ⟨#[114]⟩ rfl rfl lv ls.flatten hl J.low.size v new hvS hne hs.fits (by omega) (by omega) (by omega) hst0 (by omega)).mono ?_
        rintro e w1 ⟨rfl, hF1, hfr1⟩
        have hS := hfr1.mono (S' := LSv f b p lv) (fun _ _ h => .inl h)
        have low1 := hlow w1 hS
        obtain ⟨hD1, hQ1, hq1⟩ := pj_mid (W := W) hF hl J.qd J.qf hq hap hS
        have fap := fun t ht => files_apart hF t ht
        have hl1 := hl.fr2 hfr1 (fun hh => fap _ (by decide) p hh hl.tag) (fun k hk hh => fap _ (by decide) k hh (hl.2.2.tag hk).1) (fun k hk => fap _ (by decide) k hk)
        refine ⟨7, rfl, low1, Lib.hid ?_⟩
        refine (qlogapp_dead2 w1 W.heap.size q g h o cap st (fileOf ls) _ hD1 J.capN ⟨#[114]⟩ (by decide) (by decide) hQ1 lv' ls.flatten hq1 low1.size v new (Lib.hid (fun w' hf => hv.old (low1.trans (hf.below low1.size (hq1.base_le J.gN J.hN))) (Nat.le_refl _))) hne hs.fits (by omega) (by omega) hst0 (by omega)).mono ?_
        rintro e w2 ⟨rfl, hD2, hQ2, hfr2⟩
        obtain ⟨hF2, hl2⟩ := pj_end hF1 hl1 hD1 hQ1 hq1 hap (hfr2.mono (S' := LSv g h q lv') (fun _ _ h => .inl h))
        have qap := fun t h1 h2 => qd_apart hD1 hQ1 t h1 h2
        have hq2 := hq1.fr2 hfr2 (fun hh => qap _ (by decide) (by decide) q hh hq1.tag) (fun k hk hh => qap _ (by decide) (by decide) k hh (hq1.2.2.tag hk).1) (fun k hk => qap _ (by decide) (by decide) k hk)
        refine ⟨rfl, stepF 0, st + 2, true, _, _, _, { J with low := low1.trans (hfr2.below low1.size (by rintro k (rfl | rfl); exact J.gN; exact J.hN)), disk := ⟨m + 2, by omega, hF2⟩, stN := by omega, stM := by omega, fuN := by decide, qd := hD2, qf := hQ2, logs := ⟨lv, lv', hl2, hq2, hap⟩ }, e1.symm, hok, .inr ⟨rfl, rfl⟩⟩
      · have hz : stepF fu ≠ 0 := by unfold stepF; split <;> omega
        have hz' : max fu (-1) ≠ 0 := by omega
        have hz'' : stepF (max fu (-1)) ≠ 0 := by unfold stepF; split <;> omega
        have hee : stepF (stepF (max fu (-1))) = max (stepF (stepF fu)) (-1) := by unfold stepF; split <;> split <;> (try split) <;> (try split) <;> omega
        have hle : stepF (stepF fu) ≤ 9223372036854775807 := by unfold stepF; split <;> (try split) <;> omega
        refine (logapp_ok w W.heap.size p f b m st [114] (fileOf ls) _ fu h0 hz hfuN hF ⟨#[114]⟩ rfl rfl lv ls.flatten hl J.low.size v new hvS hne hs.fits (by omega) (by omega) (by omega) hst0 (by omega)).mono ?_
        rintro e w1 ⟨rfl, hF1, ⟨lv1, hl1, hown1⟩, hS⟩
        have low1 := hlow w1 hS
        obtain ⟨hD1, hQ1, hq1⟩ := pj_mid (W := W) hF hl J.qd J.qf hq hap hS
        have hap1 : ∀ k, lv1.ownBlock = some k → lv'.ownBlock ≠ some k := fun k hk hh => hap k (hown1 k hk (hq.2.2.tag hh).1.lt) hh
        refine ⟨0, rfl, low1, Lib.hid ?_⟩
        refine (qlogapp_ok w1 W.heap.size q g h o cap st (fileOf ls) _ (max fu (-1)) hz' hz'' (by omega) hD1 J.capN ⟨#[114]⟩ (by decide) (by decide) hQ1 lv' ls.flatten hq1 low1.size v new (Lib.hid (fun w' hf => hv.old (low1.trans (hf.below low1.size (hq1.base_le J.gN J.hN))) (Nat.le_refl _))) hne hs.fits (by omega) (by omega) hst0 (by omega)).mono ?_
        rintro e w2 ⟨rfl, hD2, hQ2, ⟨lv2, hq2, hown2⟩, hS2⟩
        obtain ⟨hF2, hl2⟩ := pj_end hF1 hl1 hD1 hQ1 hq1 hap1 hS2
        have hap2 : ∀ k, lv1.ownBlock = some k → lv2.ownBlock ≠ some k := fun k hk hh => hap1 k hk (hown2 k hh (hl1.2.2.tag hk).1.lt)
        rw [hee] at hD2
        refine ⟨rfl, stepF (stepF fu), st + 2, false, _, _, _, { J with low := low1.trans (hS2.below low1.size (hq1.base_le J.gN J.hN)), disk := ⟨m + 2, by omega, hF2⟩, stN := by omega, stM := by omega, fuN := hle, qd := hD2, qf := hQ2, logs := ⟨lv1, lv2, hl2, hq2, hap2⟩ }, e1.symm, ?_, .inl ⟨rfl, rfl, by simp⟩⟩
        simpa using hok'
end Go.Proofs.YtpnlcogbahjnoaaGreat.F

namespace Go.Proofs.YtpnlcogbahjnoaaGreat.F
open Go.RowKit Go.Proofs.YtpnlcogbahjnoaaGreat.M
set_option linter.unusedVariables false

/-- two disks behind a crash, alike: the file's bytes x, of which l last -/
structure CJ (W w : World) (f b g : Nat) (M : Nat) (x : List UInt8) (l : Nat) : Prop where
  low : Below W.heap.size W w
  fN : W.heap.size ≤ f
  bN : W.heap.size ≤ b
  gN : W.heap.size ≤ g
  disk : ∃ m, m ≤ M ∧ Files w f b m (one [114] x l) 0 (-1) false
  ref : ∃ h o cap, W.heap.size ≤ h ∧ 1 ≤ cap ∧ QD w g (.slice (some ⟨h, o, none⟩) 1 cap) 0 (-1) false ∧ QFile w h o ⟨#[114]⟩ x l

theorem pj_crash {W w : World} {f b p g h o cap q : Nat} {fu st : Int} {dead : Bool} {M : Nat} {x : List UInt8} {l : Nat} {rs : List (List UInt8)} (J : PJ W w f b p g h o cap q fu st dead M x l rs) (hM : M ≤ 1000) (hx : x.length ≤ 1073741824)
    (kv : Value) (ks : List Int) (hkv : Reads W 1 kv ks.length (ks.map (.int .i64))) (hks : ∀ x ∈ ks, -9223372036854775808 ≤ x ∧ x ≤ 9223372036854775807) :
    Calls Tryz.prog 19 #[.pointer (some ⟨f, 0, none⟩), kv] w fun e w1 => ∃ f' b', e = .returned (.pointer (some ⟨f', 0, none⟩)) ∧ Below W.heap.size W w1 ∧
      Hid (Calls Tryz.prog 20 #[.pointer (some ⟨g, 0, none⟩), kv] w1 fun e w2 => ∃ g', e = .returned (.pointer (some ⟨g', 0, none⟩)) ∧ CJ W w2 f' b' g' M (x.take (l + cutN ks 0 x l)) (l + cutN ks 0 x l)) := by
  obtain ⟨m, hm, hF⟩ := J.disk
  have hlx := holds_le' hF
  refine (crash1 w f b m st fu dead [114] x l hF (by omega) (by omega) kv ks (hkv.old J.low (Nat.le_refl _)) hks).mono ?_
  rintro e w1 ⟨f', b', rfl, hf', hb', hF1, hb1⟩
  have low1 := J.low.trans (hb1.mono J.low.size)
  refine ⟨f', b', rfl, low1, Lib.hid ?_⟩
  refine (qcrash w1 g h o cap st _ dead (J.qd.below hb1) J.capN ⟨#[114]⟩ x l (J.qf.below hb1) hlx (by omega) kv ks (hkv.old low1 (Nat.le_refl _)) hks).mono ?_
  rintro e w2 ⟨g', h', o', cap', rfl, hg', hh', hcap', hD2, hQ2, hb2⟩
  have hs := J.low.size
  have hs1 := low1.size
  exact ⟨g', rfl, ⟨low1.trans (hb2.mono low1.size), by omega, by omega, by omega, ⟨m, hm, hF1.below hb2⟩, h', o', cap', by omega, hcap', hD2, hQ2⟩⟩

/-- what an Open leaves -/
def POpen (W w : World) (f b p g q M : Nat) (ls : List (List (List UInt8))) : Prop :=
  ∃ (h o cap : Nat) (st : Int) (ls' : List (List (List UInt8))), PJ W w f b p g h o cap q (-1) st false (M + 2) (fileOf ls') (fileOf ls').length ls'.flatten ∧ ls'.length ≤ ls.length ∧ ∀ l ∈ ls', Small l

set_option maxHeartbeats 1000000 in
theorem pj_open {W w : World} {f b g M : Nat} {ls : List (List (List UInt8))} {n : Nat} (C : CJ W w f b g M ((fileOf ls).take n) n) (hM : M ≤ 1000) (hsm : ∀ l ∈ ls, Small l) (hls : ls.length ≤ 150) (hn : n ≤ (fileOf ls).length) :
    Calls Tryz.prog 21 #[.pointer (some ⟨f, 0, none⟩), .string ⟨#[114]⟩] w fun e w1 => ∃ p, e = .returned (.tuple #[.pointer (some ⟨p, 0, none⟩), .int .i64 0]) ∧ Below W.heap.size W w1 ∧
      Hid (Calls Tryz.prog 22 #[.pointer (some ⟨g, 0, none⟩), .string ⟨#[114]⟩] w1 fun e w2 => ∃ q, e = .returned (.tuple #[.pointer (some ⟨q, 0, none⟩), .int .i64 0]) ∧ POpen W w2 f b p g q M ls) := by
  obtain ⟨m, hm, hF⟩ := C.disk
  obtain ⟨h, o, cap, hh, hcap, hD, hQ⟩ := C.ref
  have hfl := fileOf_len ls hsm
  obtain ⟨K, hK, hE, ht, hsc⟩ := pick_all ls (fun l hl => (hsm l hl).fits) n hn
  have hEK : endOf ls K ≤ n := (hE K hK).2 (Nat.le_refl _)
  have hxl : ((fileOf ls).take n).length = n := by simp; omega
  have hs := C.low.size
  have hsm' : ∀ l ∈ ls.take K, Small l := fun l hl => hsm l (List.mem_of_mem_take hl)
  have hKl : (ls.take K).length ≤ ls.length := by simp; omega
  have hend : (fileOf (ls.take K)).length = endOf ls K := rfl
  by_cases hc : endOf ls K = n
  · have hx : (fileOf ls).take n = fileOf (ls.take K) := by rw [ht, hc]; simp
    rw [hx] at hF hQ hsc hxl
    rw [hc] at hsc hend
    refine (open_whole w f b m 0 [114] _ n hF ⟨#[114]⟩ rfl rfl (by omega) (by omega) (by omega) (by omega) _ (by rw [hend]; exact hsc)).mono ?_
    rintro e w1 ⟨p, rfl, hl1, hF1, hb1⟩
    have low1 := C.low.trans (hb1.mono C.low.size)
    obtain ⟨lv, hlv⟩ := hl1.v
    refine ⟨p, rfl, low1, Lib.hid ?_⟩
    refine (qopen_whole w1 g h o cap 0 (hD.below hb1) hcap ⟨#[114]⟩ _ n (hQ.below hb1) (by omega) _ (by rw [hend]; exact hsc)).mono ?_
    rintro e w2 ⟨q, lv', rfl, hq2, hD2, hQ2, hb2⟩
    have hs1 := low1.size
    refine ⟨q, rfl, h, o, cap, 0, ls.take K, ⟨low1.trans (hb2.mono low1.size), C.fN, C.bN, C.gN, hh, hcap, ⟨m, by omega, by rw [hend]; exact hF1.below hb2⟩, by omega, by omega, by omega, hD2, by rw [hend]; exact hQ2, lv, lv', ?_, ?_, ?_⟩, hKl, hsm'⟩
    · obtain ⟨a1, a2, a3⟩ := hlv.below hb2
      exact ⟨by omega, a2, a3.mono hs⟩
    · obtain ⟨a1, a2, a3⟩ := hq2
      exact ⟨by omega, a2, a3.mono hs1⟩
    · intro k hk hk2
      have h1 := (hlv.2.2.tag hk).1.lt
      have h2 := (hq2.2.2.tag hk2).2
      omega
  · have hx : ((fileOf ls).take n).take (endOf ls K) = fileOf (ls.take K) := by
      rw [ht]
      exact take_app _ _ _ rfl
    refine (open_cut w f b m 0 [114] _ n hF ⟨#[114]⟩ rfl rfl (by omega) (by omega) (by omega) (by omega) _ (endOf ls K) hsc (by omega)).mono ?_
    rintro e w1 ⟨p, rfl, hl1, hF1, hf1⟩
    rw [hx] at hF1
    have low1 := C.low.trans (hf1.below C.low.size (by rintro k (rfl | rfl); exact C.fN; exact C.bN))
    obtain ⟨lv, hlv⟩ := hl1.v
    have fap := fun t ht => files_apart hF t ht
    have hD1 := hD.fr hf1 (fun hh => fap _ (by decide) g hh hD.tag)
    have hQ1 := hQ.fr hf1 (fun hh => fap _ (by decide) h hh hQ.tag) (fun k hk => fap _ (by decide) k hk)
    refine ⟨p, rfl, low1, Lib.hid ?_⟩
    refine (qopen_cut w1 g h o cap 0 hD1 hcap ⟨#[114]⟩ _ n hQ1 (by omega) (by omega) (by omega) (by omega) _ (endOf ls K) hsc (by omega) hEK).mono ?_
    rintro e w2 ⟨q, lv', rfl, hq2, hD2, hQ2, hf2⟩
    rw [hx] at hQ2
    have hs1 := low1.size
    have qap := fun t h1 h2 => qd_apart hD1 hQ1 t h1 h2
    have hF2 := hF1.fr hf2 (fun hh => qap _ (by decide) (by decide) f hh hF1.tag) (by rintro (rfl | rfl); exact hF1.not_tag _ hD1.tag; exact hF1.not_tag _ hQ1.tag) (fun k hk => qap _ (by decide) (by decide) k hk)
    have hlv2 := hlv.fr2 hf2 (fun hh => qap _ (by decide) (by decide) p hh hlv.tag) (fun k hk hh => qap _ (by decide) (by decide) k hh (hlv.2.2.tag hk).1) (fun k hk => qap _ (by decide) (by decide) k hk)
    have low2 := low1.trans (hf2.below low1.size (by rintro k (rfl | rfl); exact C.gN; exact hh))
    refine ⟨q, rfl, h, o, cap, 0 + 2, ls.take K, ⟨low2, C.fN, C.bN, C.gN, hh, hcap, ⟨m + 2, by omega, hF2⟩, by omega, by omega, by omega, hD2, hQ2, lv, lv', ?_, ?_, ?_⟩, hKl, hsm'⟩
    · obtain ⟨a1, a2, a3⟩ := hlv2
      exact ⟨by omega, a2, a3.mono hs⟩
    · obtain ⟨a1, a2, a3⟩ := hq2
      exact ⟨by omega, a2, a3.mono hs1⟩
    · intro k hk hk2
      have h1 := (hlv.2.2.tag hk).1.lt
      have h2 := (hq2.2.2.tag hk2).2
      omega
end Go.Proofs.YtpnlcogbahjnoaaGreat.F

namespace Go.Proofs.YtpnlcogbahjnoaaGreat.F
open Go.RowKit Go.Proofs.YtpnlcogbahjnoaaGreat.M Go.ChangeShapes Go.WideShapes Go.Deep
set_option linter.unusedVariables false

/-- v is a slice of the numbers ns -/
def IntsV (w : World) (v : Value) (ns : List Int) : Prop := Reads w 1 v ns.length (ns.map (.int .i64)) ∧ ∀ n ∈ ns, -9223372036854775808 ≤ n ∧ n ≤ 9223372036854775807
section
variable {H : Type} {enc : TypeId × Value → H} {W : World}
set_option maxRecDepth 100000 in
theorem ints_arg {base : Nat} {v : Value} {d : DataW H} {ps : List MemPlace} (hok : Value.okWide Tryz.prog W .any base 23 v) (h : DataW.Trod enc Tryz.prog W 0 (fun _ => true) true 23 v d ps) : ∃ ns, IntsV W v ns := by
  obtain ⟨a, len, cap, rfl⟩ := okWide_slice Tryz.underlying23 hok
  obtain ⟨fuel, hf⟩ := h
  rcases open_ints Tryz.underlying23 Tryz.underlying3 (by kernel_rfl) hf with ⟨hcs, _⟩ | ⟨x, l, c, zs, hcs, _, hl, hm, hz, _, hcell, hwz⟩
  · simp [Value.cells] at hcs
    obtain ⟨rfl, rfl, rfl⟩ := hcs
    exact ⟨[], Reads.nil W 1, by simp⟩
  · simp [Value.cells] at hcs
    obtain ⟨rfl, rfl, rfl⟩ := hcs
    simp only [if_true] at hz
    have hlen : (zs.take len).length = len := by simp; omega
    refine ⟨zs.take len, ⟨by simp, .inr ⟨x, cap, by rw [hlen], by rw [hlen]; exact hl, hm, fun j u hj => ?_⟩⟩, fun n hn => i64_bounds n (hwz n (List.mem_of_mem_take hn))⟩
    rw [List.getElem?_map, Option.map_eq_some_iff] at hj
    obtain ⟨n, hn, rfl⟩ := hj
    rw [List.getElem?_take] at hn
    split at hn
    · rename_i hjl
      have hjz : j < zs.length := by omega
      have hg := hcell j hjz
      have hnn : zs.getD j 0 = n := by rw [List.getD_eq_getElem?_getD, hn]; rfl
      rw [hnn] at hg
      have hs : x.spot = none := by
        have h0 : 0 < zs.length := by omega
        have := World.cell?_spot (hcell 0 h0)
        simpa [Addr.add] using this
      obtain ⟨a1, a2, a3⟩ := add_off x j
      refine ⟨hs, ?_⟩
      have e : x.add j = ⟨x.block, x.off + j, none⟩ := by rw [← a1, ← a2, ← a3 hs]
      rw [e] at hg
      exact hg
    · cases hn
end
theorem IntsV.shape {w : World} {v : Value} {ns : List Int} (h : IntsV w v ns) : ∃ a cap, v = .slice a ns.length cap ∧ ns.length ≤ cap ∧ cap ≤ 9223372036854775807 := h.1.shape
theorem IntsV.below {w w' : World} {v : Value} {ns : List Int} (h : IntsV w v ns) (hb : Below w.heap.size w w') : IntsV w' v ns := ⟨h.1.below hb, h.2⟩
theorem ints_ix {w : World} {v : Value} {ns : List Int} (h : IntsV w v ns) (j : Nat) (hj : j < ns.length) :
    ∃ g o, (∀ (k : IntKind) (w' : World), (Instr.indexAt 23 v (.int k j)).run Tryz.prog w' = .ok (.pointer (some ⟨g, o, none⟩)) w') ∧ w.cell? ⟨g, o, none⟩ = some (.int .i64 ns[j]) ∧ g < w.heap.size := by
  obtain ⟨i3, hi3, hs3⟩ := info3x
  obtain ⟨g, o, h1, h2, _⟩ := index_reads 23 3 Tryz.underlying23 i3 hi3 w hs3 _ _ _ h.1 j (.int .i64 ns[j]) (by simp [hj])
  exact ⟨g, o, h1, h2, World.block_lt_of_cell? w _ h2⟩
theorem ints_add {w : World} {a : Option Addr} {n cap : Nat} {ns : List Int} (h : IntsV w (.slice a n cap) ns) (c : Nat) (hc : c ≤ ns.length) :
    IntsV w (.slice (Option.map (fun x : Addr => x.add c) a) (ns.length - c) (cap - c)) (ns.drop c) := by
  refine ⟨⟨by simp, ?_⟩, fun n hn => h.2 n (List.mem_of_mem_drop hn)⟩
  have hl : (ns.drop c).length = ns.length - c := by simp
  rw [hl]
  rcases h.1.2 with ⟨h1, h2⟩ | ⟨p, k, h1, hn, hm, hcell⟩
  · cases h1
    obtain rfl : c = 0 := by omega
    have h0 : ns.length = 0 := by simpa using h2
    exact .inl ⟨by simp [h0], by simp [h0]⟩
  · cases h1
    refine .inr ⟨_, _, rfl, by omega, by omega, fun j u hj => ?_⟩
    rw [List.map_drop, List.getElem?_drop] at hj
    obtain ⟨g1, g2⟩ := hcell _ u hj
    obtain ⟨a1, a2, a3⟩ := add_off p c
    rw [a1, a2]
    rw [← Nat.add_assoc] at g2
    exact ⟨a3 g1, g2⟩

theorem pj_create {W w : World} {f b g : Nat} (low : Below W.heap.size W w) (hfN : W.heap.size ≤ f) (hbN : W.heap.size ≤ b) (hgN : W.heap.size ≤ g) (hF : Files w f b 0 (fun _ => none) 0 (-1) false) (hD : QD w g (.slice none 0 0) 0 (-1) false) :
    Calls Tryz.prog 8 #[.pointer (some ⟨f, 0, none⟩), .string ⟨#[114]⟩] w fun e w1 => ∃ p, e = .returned (.tuple #[.pointer (some ⟨p, 0, none⟩), .int .i64 0]) ∧ Below W.heap.size W w1 ∧
      Hid (Calls Tryz.prog 9 #[.pointer (some ⟨g, 0, none⟩), .string ⟨#[114]⟩] w1 fun e w2 => ∃ q h o cap, e = .returned (.tuple #[.pointer (some ⟨q, 0, none⟩), .int .i64 0]) ∧ PJ W w2 f b p g h o cap q (-1) 2 false 2 [] 0 []) := by
  refine (create_any w f b 0 hF ⟨#[114]⟩ [114] rfl rfl (by omega)).mono ?_
  rintro e w1 ⟨p, rfl, hl, hF1, hf1⟩
  obtain ⟨lv, hlv⟩ := hl.v
  have low1 := low.trans (hf1.below low.size (by rintro k (rfl | rfl) <;> assumption))
  have fap := fun t ht => files_apart hF t ht
  have hD1 := hD.fr hf1 (fun hh => fap _ (by decide) g hh hD.tag)
  refine ⟨p, rfl, low1, Lib.hid ?_⟩
  refine (qcreate_any w1 g hD1 ⟨#[114]⟩ (by decide) (by decide)).mono ?_
  rintro e w2 ⟨q, h, o, cap, rfl, hh, hcap, hq, hD2, hQ2, hf2⟩
  have hn : ∀ k t, Tag w1 k t → t ≠ 48 → ¬ k = g := fun k t ht hne he => tag_ne ht hD1.tag hne he
  have hF2 := hF1.fr hf2 (hn _ _ hF1.tag (by decide)) (fun he => hF1.not_tag _ (he ▸ hD1.tag)) (by rintro k rfl ht; exact hn _ _ ht (by decide) rfl)
  have hlv2 := hlv.fr2 hf2 (hn _ _ hlv.tag (by decide)) (fun k hk => hn _ _ (hlv.2.2.tag hk).1 (by decide)) (by rintro k rfl ht; exact hn _ _ ht (by decide) rfl)
  have hs := low.size
  have hs1 := low1.size
  refine ⟨q, h, o, cap, rfl, low1.trans (hf2.below low1.size (by rintro k rfl; exact hgN)), hfN, hbN, hgN, by omega, hcap, ⟨2, by omega, hF2⟩, by omega, by omega, by omega, hD2, hQ2, lv, .slice none 0 0, ?_, ?_, ?_⟩
  · obtain ⟨a1, a2, a3⟩ := hlv2
    exact ⟨by omega, a2, a3.mono hs⟩
  · obtain ⟨a1, a2, a3⟩ := hq
    exact ⟨by omega, a2, a3.mono hs1⟩
  · intro k _ hk
    simp [Value.ownBlock] at hk
end Go.Proofs.YtpnlcogbahjnoaaGreat.F
