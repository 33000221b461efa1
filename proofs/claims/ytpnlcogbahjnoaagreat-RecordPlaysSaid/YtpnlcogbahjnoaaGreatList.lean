/- record.list: the records of a body. Conditions stand at each theorem. -/
import Derived.Test.YtpnlcogbahjnoaaGreatRead
namespace Go.Proofs.YtpnlcogbahjnoaaGreat.F
open Go.RowKit Go.Proofs.YtpnlcogbahjnoaaGreat.M
set_option linter.unusedVariables false

/-- vs are slices of bytes that read as rs, in blocks of bytes -/
def OVals (w : World) (vs : List Value) (rs : List (List UInt8)) : Prop := vs.length = rs.length ∧ ∀ (i : Nat) (r : List UInt8), rs[i]? = some r → ∃ u, vs[i]? = some u ∧ OB w u r
theorem OVals.fr {S : Nat → Prop} {w w' : World} {vs : List Value} {rs : List (List UInt8)} (h : OVals w vs rs) (hf : Fr S w w') (hs : ∀ g, S g → ¬ Tag w g 5) : OVals w' vs rs :=
  ⟨h.1, fun i r hi => by
    obtain ⟨u, h1, h2⟩ := h.2 i r hi
    exact ⟨u, h1, h2.fr hf hs⟩⟩
theorem OVals.vals {w : World} {vs : List Value} {rs : List (List UInt8)} (h : OVals w vs rs) : RecVals w vs rs :=
  ⟨h.1, fun i r hi => by
    obtain ⟨u, h1, h2⟩ := h.2 i r hi
    exact ⟨u, h1, h2.1⟩⟩
theorem OVals.append {w : World} {vs us : List Value} {rs ss : List (List UInt8)} (h : OVals w vs rs) (k : OVals w us ss) : OVals w (vs ++ us) (rs ++ ss) := by
  refine ⟨by rw [List.length_append, List.length_append, h.1, k.1], fun i r hi => ?_⟩
  rw [List.getElem?_append] at hi ⊢
  rw [h.1]
  split at hi
  · rw [if_pos (by assumption)]; exact h.2 i r hi
  · rw [if_neg (by assumption)]; exact k.2 _ r hi
theorem OVals.one {w : World} {u : Value} {r : List UInt8} (h : OB w u r) : OVals w [u] [r] :=
  ⟨rfl, fun i s hi => by
    match i, hi with
    | 0, hi => cases hi; exact ⟨u, rfl, h⟩⟩
/-- v is a slice of records of one's own -/
def ORecs (w : World) (base : Nat) (v : Value) (rs : List (List UInt8)) : Prop := ∃ vs, Owns w base 52 1 v rs.length vs ∧ OVals w vs rs
theorem ORecs.recs {w : World} {base : Nat} {v : Value} {rs : List (List UInt8)} (h : ORecs w base v rs) : Recs w v rs := by
  obtain ⟨vs, h1, h2⟩ := h
  exact ⟨vs, h1.reads, h2.vals⟩
theorem ORecs.nil (w : World) (base : Nat) : ORecs w base (.slice none 0 0) [] := ⟨[], Owns.nil _ _ _ _, rfl, fun i r h => by simp at h⟩
theorem ORecs.mono {w : World} {base base' : Nat} {v : Value} {rs : List (List UInt8)} (h : ORecs w base v rs) (hb : base' ≤ base) : ORecs w base' v rs := by
  obtain ⟨vs, h1, h2⟩ := h
  exact ⟨vs, h1.mono hb, h2⟩
theorem ORecs.tag {w : World} {base : Nat} {v : Value} {rs : List (List UInt8)} (h : ORecs w base v rs) {g : Nat} (hg : v.ownBlock = some g) : Tag w g 52 ∧ base ≤ g := by
  obtain ⟨vs, h1, h2⟩ := h
  rcases h1.2 with ⟨rfl, _⟩ | ⟨g', off, cap, cur, rfl, hb, hh, r⟩
  · simp [Value.ownBlock] at hg
  · simp only [Value.ownBlock, Option.some.injEq] at hg
    subst hg
    exact ⟨⟨_, _, hh⟩, hb⟩
theorem ORecs.fr {S : Nat → Prop} {w w' : World} {base : Nat} {v : Value} {rs : List (List UInt8)} (h : ORecs w base v rs) (hf : Fr S w w') (hs : ∀ g, S g → ¬ Tag w g 5 ∧ ¬ Tag w g 52) : ORecs w' base v rs := by
  have ht := fun g hg => (h.tag (g := g) hg).1
  obtain ⟨vs, h1, h2⟩ := h
  exact ⟨vs, h1.fr hf (fun g hg hsg => (hs g hsg).2 (ht g hg)), h2.fr hf (fun g hsg => (hs g hsg).1)⟩
theorem ORecs.below {w w' : World} {base : Nat} {v : Value} {rs : List (List UInt8)} (h : ORecs w base v rs) (hb : Below w.heap.size w w') : ORecs w' base v rs := h.fr (Fr.of_below (S := fun _ => False) hb) (fun _ h => h.elim)
theorem ORecs.shape {w : World} {base : Nat} {v : Value} {rs : List (List UInt8)} (h : ORecs w base v rs) : ∃ a cap, v = .slice a rs.length cap ∧ rs.length ≤ cap ∧ cap ≤ 9223372036854775807 := h.recs.shape

/-- the records that a body is a list of -/
def recsM : Nat → List UInt8 → Option (List (List UInt8))
  | 0, l => if l = [] then some [] else none
  | n + 1, l => match decB 1048576 l with
    | .error _ => none
    | .ok (r, l') => (recsM n l').map (r :: ·)
def listM (bs : List UInt8) : Option (List (List UInt8)) := match dec bs with
  | .error _ => none
  | .ok (n, l) => recsM n l

theorem decGo_ok {f i acc : Nat} {bs : List UInt8} {n : Nat} {l : List UInt8} (h : decGo f i acc bs = .ok (n, l)) : l.length < bs.length ∧ n ≤ 1099511627776 := by
  induction f generalizing i acc bs with
  | zero => simp [decGo] at h
  | succ f ih =>
    cases bs with
    | nil => simp [decGo] at h
    | cons c bs =>
      rw [decGo] at h
      split at h
      · split at h
        · rename_i h1
          cases h
          exact ⟨by simp, h1.2⟩
        · cases h
      · have := ih h
        exact ⟨by simp; omega, this.2⟩
theorem dec_ok {bs : List UInt8} {n : Nat} {l : List UInt8} (h : dec bs = .ok (n, l)) : l.length < bs.length ∧ n ≤ 1099511627776 := decGo_ok h
theorem decGo_err {f i acc : Nat} {bs : List UInt8} {c : Int} (h : decGo f i acc bs = .error c) : c ≠ 0 := by
  induction f generalizing i acc bs with
  | zero => simp [decGo] at h; omega
  | succ f ih =>
    cases bs with
    | nil => simp [decGo] at h; omega
    | cons c' bs =>
      rw [decGo] at h
      split at h
      · split at h
        · cases h
        · simp at h; omega
      · exact ih h
theorem dec_err {bs : List UInt8} {c : Int} (h : dec bs = .error c) : c ≠ 0 := decGo_err h
theorem decB_ok {most : Nat} {bs r l : List UInt8} (h : decB most bs = .ok (r, l)) : r.length + l.length < bs.length ∧ r.length ≤ most := by
  unfold decB at h
  cases hd : dec bs with
  | error c => rw [hd] at h; cases h
  | ok x =>
    obtain ⟨n, l'⟩ := x
    rw [hd] at h
    simp only at h
    have := dec_ok hd
    split at h
    · split at h
      · cases h
        simp
        omega
      · cases h
    · cases h
theorem decB_err {most : Nat} {bs : List UInt8} {c : Int} (h : decB most bs = .error c) : c ≠ 0 := by
  unfold decB at h
  cases hd : dec bs with
  | error c' => rw [hd] at h; cases h; exact dec_err hd
  | ok x =>
    obtain ⟨n, l'⟩ := x
    rw [hd] at h
    simp only at h
    split at h
    · split at h
      · cases h
      · cases h; omega
    · cases h; omega

def ListOut (w' : World) (base : Nat) (e : Ending) : Option (List (List UInt8)) → Prop
  | some rs => ∃ v, e = .returned (.tuple #[v, .bool true]) ∧ ORecs w' base v rs
  | none => ∃ a n k, e = .returned (.tuple #[.slice a n k, .bool false])
theorem list_out {w' : World} {base : Nat} {e : Ending} {bs : List UInt8} {X : Option (List (List UInt8))} (h : listM bs = X) (h' : ListOut w' base e X) : ListOut w' base e (listM bs) := h ▸ h'

/-- how far the reading of a body is -/
def ListSt (wr : World) (base p : Nat) (bs : List UInt8) (n j : Nat) (v : Value) : Prop :=
  (∃ rs l, ORecs wr base v rs ∧ RdAt wr p l 0 ∧ listM bs = (recsM (n - j) l).map (rs ++ ·) ∧ rs.length + l.length ≤ bs.length) ∨ (∃ c l, c ≠ 0 ∧ (∃ a m k, v = .slice a m k) ∧ RdAt wr p l c ∧ listM bs = none)

set_option maxRecDepth 100000 in
set_option maxHeartbeats 1000000 in
theorem list_any (w : World) (v : Value) (bs : List UInt8) (hv : Bytes w v bs) (hl : bs.length ≤ 1073741824) :
    Calls Tryz.prog 67 #[v] w fun e w' => ListOut w' w.heap.size e (listM bs) ∧ Below w.heap.size w w' := by
  obtain ⟨i, hi, hz0, hz1, hz2⟩ := info_parts info23
  obtain ⟨a, cap, rfl, hc, hm⟩ := hv.shape
  have HV := Lib.hid hv
  have Hi := Lib.hid hi
  have Hz0 := Lib.hid hz0
  have Hz1 := Lib.hid hz1
  have Hz2 := Lib.hid hz2
  clear hv hi hz0 hz1 hz2
  go_enter Tryz.func67, Tryz.ntmps67
  go_wp2_with fail
  refine (newReader_any w _ bs HV.out (by omega)).mono ?_
  rintro e w1 ⟨p, rfl, hp, hr1, hb1⟩
  have HR1 := Lib.hid hr1
  have HB1 := Lib.hid hb1
  clear hr1 hb1
  go_wp2_with fail
  cases hd : dec bs with
  | error c =>
    have hL : Hid (listM bs = none) := Lib.hid (by rw [listM, hd])
    have hcz := dec_err hd
    refine (rnum_no w1 p bs HR1.out c hd).mono ?_
    rintro e w2 ⟨rfl, hr2, hf2⟩
    have HR2 := Lib.hid hr2
    have HB2 := Lib.hid (HB1.out.trans (hf2.below HB1.out.size (by rintro k rfl; exact hp)))
    clear hr2 hf2 HR1
    go_wp2_with fail
    go_loopg [5, 10] 0 (fun k s5 s10 wr => ∃ j : Nat, j ≤ 0 ∧ k + j = 0 ∧ s10 = .int .i64 j ∧ Hid (ListSt wr w.heap.size p bs 0 j s5) ∧ Hid (Below w.heap.size w wr))
    case atStart => exact ⟨0, by omega, by omega, rfl, Lib.hid (.inr ⟨c, [], hcz, ⟨_, _, _, rfl⟩, HR2.out, hL.out⟩), HB2⟩
    case round =>
      obtain ⟨j, hj, hk, rfl, hst, hbw⟩ := hrel
      by_cases hlt : j < 0
      · exact absurd hlt (Nat.not_lt_zero _)
      · have hjn : 0 - j = 0 := by omega
        rcases hst.out with ⟨rs, l0, hv0, hr0, hlm, hlen⟩ | ⟨c, l0, hcz, ⟨a5, m5, k5, rfl⟩, hr0, hlm⟩
        · obtain ⟨a5, k5, rfl, hk5, hm5⟩ := hv0.shape
          have HV0 := Lib.hid hv0
          have HR0 := Lib.hid hr0
          rw [hjn, recsM] at hlm
          by_cases hl0 : l0 = []
          · rw [if_pos hl0] at hlm
            have HLM : Hid (listM bs = some rs) := Lib.hid (by rw [hlm]; simp)
            have HE := Lib.hid (end_any wr p l0 0 HR0.out)
            rw [hl0] at HE
            clear hv0 hr0 hlm hst
            go_wp2_with fail
            refine HE.out.mono ?_
            rintro e w' ⟨rfl, rfl⟩
            go_wp2_with fail
            go_ret2
            exact ⟨list_out HLM.out ⟨_, rfl, HV0.out⟩, hbw.out⟩
          · rw [if_neg hl0] at hlm
            have HLM : Hid (listM bs = none) := Lib.hid (by rw [hlm]; rfl)
            have hpos : 0 < l0.length := List.length_pos_iff.2 hl0
            have HE := end_any wr p l0 0 HR0.out
            rw [if_neg (by simp), if_pos hpos] at HE
            have HE := Lib.hid HE
            clear hv0 hr0 hlm hst
            go_wp2_with fail
            refine HE.out.mono ?_
            rintro e w' ⟨rfl, rfl⟩
            go_wp2_with fail
            go_ret2
            exact ⟨list_out HLM.out ⟨_, _, _, rfl⟩, hbw.out⟩
        · have hcb : (c == 0) = false := by simpa using hcz
          have HE := end_any wr p l0 c hr0
          rw [if_pos hcz] at HE
          have HE := Lib.hid HE
          have HLM := Lib.hid hlm
          clear hr0 hlm hst
          go_wp2_with fail
          refine HE.out.mono ?_
          rintro e w' ⟨rfl, rfl⟩
          go_wp2_with fail
          go_ret2
          exact ⟨list_out HLM.out ⟨_, _, _, rfl⟩, hbw.out⟩
  | ok x =>
    obtain ⟨n, l⟩ := x
    have hdl := dec_ok hd
    have hL : Hid (listM bs = recsM n l) := Lib.hid (by rw [listM, hd])
    refine (rnum_ok w1 p bs HR1.out n l hd).mono ?_
    rintro e w2 ⟨rfl, hr2, hf2⟩
    have HR2 := Lib.hid hr2
    have HB2 := Lib.hid (HB1.out.trans (hf2.below HB1.out.size (by rintro k rfl; exact hp)))
    clear hr2 hf2 HR1
    go_wp2_with fail
    go_loopg [5, 10] n (fun k s5 s10 wr => ∃ j : Nat, j ≤ n ∧ k + j = n ∧ s10 = .int .i64 j ∧ Hid (ListSt wr w.heap.size p bs n j s5) ∧ Hid (Below w.heap.size w wr))
    case atStart => exact ⟨0, by omega, by omega, rfl, Lib.hid (.inl ⟨[], l, ORecs.nil _ _, HR2.out, by rw [hL.out]; simp, by simp; omega⟩), HB2⟩
    case round =>
      obtain ⟨j, hj, hk, rfl, hst, hbw⟩ := hrel
      by_cases hlt : j < n
      · rcases hst.out with ⟨rs, l0, hv0, hr0, hlm, hlen⟩ | ⟨c, l0, hcz, ⟨a5, m5, k5, rfl⟩, hr0, hlm⟩
        · obtain ⟨a5, k5, rfl, hk5, hm5⟩ := hv0.shape
          have HV0 := Lib.hid hv0
          have HR0 := Lib.hid hr0
          have HLM := Lib.hid hlm
          clear hv0 hr0 hlm hst
          have hnj : n - j = (n - (j + 1)) + 1 := by omega
          go_wp2_with fail
          refine (fail_any wr p l0 0 HR0.out).mono ?_
          rintro e w' ⟨rfl, rfl⟩
          go_wp2_with fail
          cases hB : decB 1048576 l0 with
          | error c =>
            have hcz := decB_err hB
            have HN : Hid (listM bs = none) := Lib.hid (by rw [HLM.out, hnj, recsM, hB]; rfl)
            refine (rbytes_no w' p l0 HR0.out 1048576 (by omega) c hB).mono ?_
            rintro e w3 ⟨u3, rfl, hr3, rfl, hf3⟩
            have nt : ∀ g, g = p → ¬ Tag w' g 5 ∧ ¬ Tag w' g 52 := by
              rintro g rfl
              obtain ⟨sv, z, -⟩ := HR0.out
              exact ⟨Tag.not z (by decide), Tag.not z (by decide)⟩
            have hv3 := HV0.out.fr hf3 nt
            have ht3 := fun g hg => (hv3.tag (g := g) hg).1
            obtain ⟨vs, hv3, hov3⟩ := hv3
            have HV3 := Lib.hid hv3
            have HR3 := Lib.hid hr3
            have HB3 := Lib.hid (hbw.out.trans (hf3.below hbw.out.size (by rintro k rfl; exact hp)))
            have HT3 := Lib.hid ht3
            clear hv3 hr3 hf3 nt hov3 ht3
            go_wp2_with (at_builtin; refine wpList_append_owns rfl _ _ 39 rfl w.heap.size 52 i (.slice none 0 0) 1 24 Tryz.underlying39 Hi.out Hz0.out Hz1.out Hz2.out rfl (.slice a5 rs.length k5) rs.length vs rfl (Owns.fr HV3.out ((Fr.refl (fun _ => False) _).alloc _) (fun _ _ => id)) _ 1 [.slice none 0 0] rfl (Reads.one (heap_alloc_new w3 _)) (by simp [Value.oneCell']) (rs.length + 1) rfl (vs ++ [.slice none 0 0]) rfl (by omega) (by omega) (Nat.le_trans HB3.out.size (by simp)) ?_; intro q k w4 y1 y2 y3 y4 y5; have Y1 := Lib.hid y1; have Y4 := Lib.hid y4; clear y1 y4 y5)
            have F4 : Fr (fun k => (Value.slice a5 rs.length k5).ownBlock = some k) w3 w4 := Fr.trans (S := fun k => (Value.slice a5 rs.length k5).ownBlock = some k) ((Fr.refl _ w3).alloc _) (Fr.of_grown (S := fun k => (Value.slice a5 rs.length k5).ownBlock = some k) Y4.out (fun k hk _ => hk)) (fun _ _ h => h)
            have HB4 := Lib.hid (HB3.out.trans (F4.below HB3.out.size (fun k hk => (HV3.out.base_le k hk).1)))
            have hr4 := HR3.out.fr F4 (by intro hh; obtain ⟨sv, z, -⟩ := HR3.out; exact Tag.not z (by decide) (HT3.out p hh)) (by intro g hg; obtain ⟨cur, fz, z⟩ := HT3.out g hg; exact Tag.not z (by decide))
            go_roundg (n - (j + 1))
            case measure => omega
            case rel => exact ⟨j + 1, by omega, by omega, by simp, Lib.hid (.inr ⟨c, _, hcz, ⟨_, _, _, rfl⟩, hr4, HN.out⟩), HB4⟩
          | ok x =>
            obtain ⟨r, l'⟩ := x
            have hrl := decB_ok hB
            have HN : Hid (listM bs = (recsM (n - (j + 1)) l').map ((rs ++ [r]) ++ ·)) := Lib.hid (by
              rw [HLM.out, hnj, recsM, hB, Option.map_map]
              congr 1
              funext z
              simp)
            refine (rbytes_ok w' p l0 HR0.out 1048576 (by omega) r l' (by omega) hB).mono ?_
            rintro e w3 ⟨u3, rfl, hr3, ⟨a3, k3, rfl, hu3⟩, hf3⟩
            have nt : ∀ g, g = p → ¬ Tag w' g 5 ∧ ¬ Tag w' g 52 := by
              rintro g rfl
              obtain ⟨sv, z, -⟩ := HR0.out
              exact ⟨Tag.not z (by decide), Tag.not z (by decide)⟩
            have hv3 := HV0.out.fr hf3 nt
            have ht3 := fun g hg => (hv3.tag (g := g) hg).1
            obtain ⟨vs, hv3, hov3⟩ := hv3
            have HV3 := Lib.hid hv3
            have HOV3 := Lib.hid (hov3.append (OVals.one hu3))
            have HR3 := Lib.hid hr3
            have HB3 := Lib.hid (hbw.out.trans (hf3.below hbw.out.size (by rintro k rfl; exact hp)))
            have HT3 := Lib.hid ht3
            clear hv3 hr3 hf3 nt hov3 ht3 hu3
            go_wp2_with (at_builtin; refine wpList_append_owns rfl _ _ 39 rfl w.heap.size 52 i (.slice none 0 0) 1 24 Tryz.underlying39 Hi.out Hz0.out Hz1.out Hz2.out rfl (.slice a5 rs.length k5) rs.length vs rfl (Owns.fr HV3.out ((Fr.refl (fun _ => False) _).alloc _) (fun _ _ => id)) _ 1 [.slice a3 r.length k3] rfl (Reads.one (heap_alloc_new w3 _)) (by simp [Value.oneCell']) (rs.length + 1) rfl (vs ++ [.slice a3 r.length k3]) rfl (by omega) (by omega) (Nat.le_trans HB3.out.size (by simp)) ?_; intro q k w4 y1 y2 y3 y4 y5; have Y1 := Lib.hid y1; have Y4 := Lib.hid y4; clear y1 y4 y5)
            have F4 : Fr (fun k => (Value.slice a5 rs.length k5).ownBlock = some k) w3 w4 := Fr.trans (S := fun k => (Value.slice a5 rs.length k5).ownBlock = some k) ((Fr.refl _ w3).alloc _) (Fr.of_grown (S := fun k => (Value.slice a5 rs.length k5).ownBlock = some k) Y4.out (fun k hk _ => hk)) (fun _ _ h => h)
            have nt4 : ∀ g, (Value.slice a5 rs.length k5).ownBlock = some g → ¬ Tag w3 g 5 := by intro g hg; obtain ⟨cur, fz, z⟩ := HT3.out g hg; exact Tag.not z (by decide)
            have HB4 := Lib.hid (HB3.out.trans (F4.below HB3.out.size (fun k hk => (HV3.out.base_le k hk).1)))
            have hr4 := HR3.out.fr F4 (by intro hh; obtain ⟨sv, z, -⟩ := HR3.out; exact Tag.not z (by decide) (HT3.out p hh)) nt4
            have ho4 : ORecs w4 w.heap.size (.slice q (rs.length + 1) k) (rs ++ [r]) := ⟨_, by rw [List.length_append]; exact Y1.out, HOV3.out.fr F4 nt4⟩
            have HO4 := Lib.hid ho4
            clear ho4
            go_roundg (n - (j + 1))
            case measure => omega
            case rel => exact ⟨j + 1, by omega, by omega, by simp, Lib.hid (.inl ⟨_, _, HO4.out, hr4, HN.out, by simp; omega⟩), HB4⟩
        · have HR0 := Lib.hid hr0
          have HLM := Lib.hid hlm
          clear hr0 hlm hst
          go_wp2_with fail
          refine (fail_any wr p l0 c HR0.out).mono ?_
          rintro e w' ⟨rfl, rfl⟩
          go_wp2_with fail
          go_ret2
          exact ⟨list_out HLM.out ⟨_, _, _, rfl⟩, hbw.out⟩
      · have hjn : n - j = 0 := by omega
        rcases hst.out with ⟨rs, l0, hv0, hr0, hlm, hlen⟩ | ⟨c, l0, hcz, ⟨a5, m5, k5, rfl⟩, hr0, hlm⟩
        · obtain ⟨a5, k5, rfl, hk5, hm5⟩ := hv0.shape
          have HV0 := Lib.hid hv0
          have HR0 := Lib.hid hr0
          rw [hjn, recsM] at hlm
          by_cases hl0 : l0 = []
          · rw [if_pos hl0] at hlm
            have HLM : Hid (listM bs = some rs) := Lib.hid (by rw [hlm]; simp)
            have HE := Lib.hid (end_any wr p l0 0 HR0.out)
            rw [hl0] at HE
            clear hv0 hr0 hlm hst
            go_wp2_with fail
            refine HE.out.mono ?_
            rintro e w' ⟨rfl, rfl⟩
            go_wp2_with fail
            go_ret2
            exact ⟨list_out HLM.out ⟨_, rfl, HV0.out⟩, hbw.out⟩
          · rw [if_neg hl0] at hlm
            have HLM : Hid (listM bs = none) := Lib.hid (by rw [hlm]; rfl)
            have hpos : 0 < l0.length := List.length_pos_iff.2 hl0
            have HE := end_any wr p l0 0 HR0.out
            rw [if_neg (by simp), if_pos hpos] at HE
            have HE := Lib.hid HE
            clear hv0 hr0 hlm hst
            go_wp2_with fail
            refine HE.out.mono ?_
            rintro e w' ⟨rfl, rfl⟩
            go_wp2_with fail
            go_ret2
            exact ⟨list_out HLM.out ⟨_, _, _, rfl⟩, hbw.out⟩
        · have hcb : (c == 0) = false := by simpa using hcz
          have HE := end_any wr p l0 c hr0
          rw [if_pos hcz] at HE
          have HE := Lib.hid HE
          have HLM := Lib.hid hlm
          clear hr0 hlm hst
          go_wp2_with fail
          refine HE.out.mono ?_
          rintro e w' ⟨rfl, rfl⟩
          go_wp2_with fail
          go_ret2
          exact ⟨list_out HLM.out ⟨_, _, _, rfl⟩, hbw.out⟩
end Go.Proofs.YtpnlcogbahjnoaaGreat.F
