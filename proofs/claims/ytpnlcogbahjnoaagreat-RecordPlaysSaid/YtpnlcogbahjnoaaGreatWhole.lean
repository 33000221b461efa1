/- A log that is appended to on a disk that may die. Conditions stand at each theorem. -/
import Derived.Test.YtpnlcogbahjnoaaGreatLists
namespace Go.Proofs.YtpnlcogbahjnoaaGreat.F
open Go.RowKit Go.Proofs.YtpnlcogbahjnoaaGreat.M
set_option linter.unusedVariables false

/-- 'wpList_append_ownz' behind a guard -/
theorem wpList_append_ownz_g {P : Program} {w : World} {ops : Array Oper} {rest : List Oper} {o : Oper} {a : Act} {Q : Exit → Act → World → Prop} (hw : Region.wanted o (yielded ops a.tmps) = true) (s x : Operand) (t : TypeId)
    (ho : o.op = .call { callee := .builtin .append, args := #[s, x], argTypes := #[t, t] })
    (base : Nat) (e : TypeId) (i : TypeInfo) (z : Value) (size bytes : Nat) (ht : P.underlying t = some (.slice e)) (hi : P.info? e = some i) (hz : i.zero = some z)
    (hsize : i.size = size) (hby : i.bytes = bytes) (hzs : z.cells.size = size)
    (v : Value) (n : Nat) (xs : List Value) (hs : a.eval s = v) (hown : OwnZ w base e size v n xs)
    (y : Value) (m : Nat) (ys : List Value) (hx : a.eval x = y) (hr : Reads w size y m ys) (h1 : ∀ u ∈ ys, u.oneCell' = true)
    (N : Nat) (hN : n + m = N) (zs : List Value) (hzl : xs ++ ys = zs) (h63 : N ≤ 9223372036854775807) (hbytes : N * bytes ≤ 140737488355328) (hbase : base ≤ w.heap.size)
    (h : ∀ (q : Option Addr) (cap : Nat) w', OwnZ w' base e size (.slice q N cap) N zs → N ≤ cap → cap ≤ 9223372036854775807 → Fr (fun k => base ≤ k ∧ v.ownBlock = some k) w w' → wpList P ops Q rest (a.put o.dst (.slice q N cap)) w') : wpList P ops Q (o :: rest) a w := by
  subst hN hzl
  obtain ⟨q, cap, w', hrun, h2, h3⟩ := run_append_ownz (P := P) w base t o.type e i z size bytes ht hi hz hsize hby hzs v n xs hown y m ys hr h1 (by simp only [maxLen]; omega) hbytes hbase
  obtain ⟨q', cap', he, h5, h6⟩ := h2.reads.shape
  cases he
  refine wpList_step fun K hK => ?_
  rw [if_pos hw]
  unfold Oper.wp execOp
  simp only [ho, resolve, invoke, builtin, Sem.run_bind, Sem.run_pure, Result.andThen_ok, List.map_toArray, List.map_cons, List.map_nil, hs, hx, hrun]
  exact hK _ _ (h q cap w' h2 h5 h6 h3)

/-- v is a slice of one's own that holds elder slices of bytes -/
def SRecs (W w : World) (v : Value) (rs : List (List UInt8)) : Prop := ∃ vs, Owns w W.heap.size 52 1 v rs.length vs ∧ RecVals W vs rs
theorem SRecs.recs {W w : World} {v : Value} {rs : List (List UInt8)} (h : SRecs W w v rs) (hb : Below W.heap.size W w) : Recs w v rs := by
  obtain ⟨vs, h1, h2⟩ := h
  exact ⟨vs, h1.reads, h2.old hb⟩
theorem SRecs.nil (W w : World) : SRecs W w (.slice none 0 0) [] := ⟨[], Owns.nil _ _ _ _, rfl, fun i r h => by simp at h⟩
theorem SRecs.shape {W w : World} {v : Value} {rs : List (List UInt8)} (h : SRecs W w v rs) : ∃ a cap, v = .slice a rs.length cap ∧ rs.length ≤ cap ∧ cap ≤ 9223372036854775807 := by
  obtain ⟨vs, h1, _⟩ := h
  exact h1.reads.shape
theorem SRecs.tag {W w : World} {v : Value} {rs : List (List UInt8)} (h : SRecs W w v rs) {g : Nat} (hg : v.ownBlock = some g) : Tag w g 52 ∧ W.heap.size ≤ g := by
  obtain ⟨vs, h1, h2⟩ := h
  rcases h1.2 with ⟨rfl, _⟩ | ⟨g', off, cap, cur, rfl, hb, hh, r⟩
  · simp [Value.ownBlock] at hg
  · simp only [Value.ownBlock, Option.some.injEq] at hg
    subst hg
    exact ⟨⟨_, _, hh⟩, hb⟩
theorem SRecs.fr {S : Nat → Prop} {W w w' : World} {v : Value} {rs : List (List UInt8)} (h : SRecs W w v rs) (hf : Fr S w w') (hs : ∀ g, v.ownBlock = some g → ¬ S g) : SRecs W w' v rs := by
  obtain ⟨vs, h1, h2⟩ := h
  exact ⟨vs, h1.fr hf hs, h2⟩
theorem RecVals.append {w : World} {vs us : List Value} {rs ss : List (List UInt8)} (h : RecVals w vs rs) (k : RecVals w us ss) : RecVals w (vs ++ us) (rs ++ ss) := by
  refine ⟨by rw [List.length_append, List.length_append, h.1, k.1], fun i r hi => ?_⟩
  rw [List.getElem?_append] at hi ⊢
  rw [h.1]
  split at hi
  · rw [if_pos (by assumption)]; exact h.2 i r hi
  · rw [if_neg (by assumption)]; exact k.2 _ r hi
theorem RecVals.one {w : World} {vs : List Value} {rs : List (List UInt8)} (h : RecVals w vs rs) : ∀ u ∈ vs, u.oneCell' = true := by
  intro u hu
  obtain ⟨q, hq, hqe⟩ := List.getElem_of_mem hu
  have hq' : q < rs.length := by rw [← h.1]; exact hq
  obtain ⟨u', h1, h2⟩ := h.2 q rs[q] (by simp [hq'])
  rw [List.getElem?_eq_getElem hq, Option.some.injEq] at h1
  rw [hqe] at h1
  subst h1
  obtain ⟨y1, y2, rfl, -, -⟩ := Reads.shape h2
  rfl

/-- log p at disk f, which dies behind fu steps, has been appended the lists ls; v is none of its blocks -/
structure WJ (W w : World) (f b p : Nat) (fu : Int) (ls : List (List (List UInt8))) (v : Value) : Prop where
  low : Below W.heap.size W w
  fN : W.heap.size ≤ f
  bN : W.heap.size ≤ b
  disk : ∃ (m : Nat) (st : Int), Files w f b m (one [114] (fileOf ls) (fileOf ls).length) st fu false ∧ m ≤ 2 * ls.length + 2 ∧ 0 ≤ st ∧ st ≤ 2 * ls.length + 2
  log : ∃ lv, LogV w W.heap.size p f ⟨#[114]⟩ lv ls.flatten ∧ ∀ g, v.ownBlock = some g → lv.ownBlock ≠ some g
  fit : ∀ l ∈ ls, Small l
  own : SRecs W w v ls.flatten

/-- the disk died at an Append: what its file is -/
def Torn (W w : World) (f b : Nat) (ls : List (List (List UInt8))) (l : List (List UInt8)) : Prop := Below W.heap.size W w ∧ ∃ (m : Nat) (st fu : Int), m ≤ 1000 ∧ Files w f b m (one [114] (fileOf ls ++ frame (body l)) (fileOf ls).length) st fu true

theorem wj_app {W w : World} {f b p : Nat} {fu : Int} {ls : List (List (List UInt8))} {s : Value} (h : WJ W w f b p fu ls s) (hfu : 0 ≤ fu) (hfu2 : fu ≤ 63) (hls : ls.length ≤ 100) (v : Value) (new : List (List UInt8)) (hs : Small new) (hv : Recs W v new) :
    Calls Tryz.prog 12 #[.pointer (some ⟨p, 0, none⟩), v] w fun e w' => ∃ e1 : Int, e = .returned (.int .i64 e1) ∧ SRecs W w' s ls.flatten ∧
      ((e1 = 0 ∧ ∃ (fu' : Int) (m : Nat) (st : Int) (lv : Value), 0 ≤ fu' ∧ fu' ≤ 63 ∧ Below W.heap.size W w' ∧ Files w' f b m (one [114] (fileOf (ls ++ [new])) (fileOf (ls ++ [new])).length) st fu' false ∧ m ≤ 2 * (ls ++ [new]).length + 2 ∧ 0 ≤ st ∧ st ≤ 2 * (ls ++ [new]).length + 2 ∧ LogV w' W.heap.size p f ⟨#[114]⟩ lv (ls ++ [new]).flatten ∧ ∀ g, s.ownBlock = some g → lv.ownBlock ≠ some g) ∨
        (e1 = 7 ∧ Torn W w' f b ls new)) := by
  obtain ⟨m, st, hF, hm, hs0, hs1⟩ := h.disk
  obtain ⟨lv, hlv, hapart⟩ := h.log
  have hfl := fileOf_len ls h.fit
  have hfl2 := flat_len ls h.fit
  -- what an Append turns is none of s's blocks
  have hnot : ∀ g, s.ownBlock = some g → ¬ LSv f b p lv g := by
    rintro g hg (hh | hh | hh)
    · exact files_apart hF 52 (by decide) g hh (h.own.tag hg).1
    · subst hh
      exact Tag.not hlv.2.1 (by decide) (h.own.tag hg).1
    · exact hapart g hg hh
  have hlow : ∀ w', Fr (LSv f b p lv) w w' → Below W.heap.size W w' := fun w' hf => h.low.trans (hf.below h.low.size (hlv.base_le h.fN h.bN))
  have hvS : Hid (∀ w', Fr (LSv f b p lv) w w' → Recs w' v new) := Lib.hid (fun w' hf => hv.old (hlow w' hf) (Nat.le_refl _))
  by_cases hne : new = []
  · subst hne
    obtain ⟨a, cap, rfl, -, -⟩ := hv.shape
    refine (logapp_nil w _ p f _ _ hlv.at_ a cap).mono ?_
    rintro e w' ⟨rfl, rfl⟩
    have e1 : fileOf (ls ++ [[]]) = fileOf ls := by rw [fileOf_append]; simp [fileOf]
    exact ⟨0, rfl, h.own, .inl ⟨rfl, fu, m, st, lv, hfu, hfu2, h.low, by rw [e1]; exact hF, by simp; omega, hs0, by simp; omega, by simpa using hlv, hapart⟩⟩
  · have e1 : fileOf (ls ++ [new]) = fileOf ls ++ frame (body new) := by rw [fileOf_append, fileOf_one _ hne]
    by_cases h0 : fu = 0
    · subst h0
      refine (logapp_dead1 w W.heap.size p f b m st [114] (fileOf ls) _ hF ⟨#[114]⟩ rfl rfl lv ls.flatten hlv h.low.size v new hvS hne hs.fits (by omega) (by omega) (by omega) hs0 (by omega)).mono ?_
      rintro e w' ⟨rfl, hF', hfr⟩
      replace hfr := hfr.mono (S' := LSv f b p lv) (fun _ _ h => .inl h)
      exact ⟨7, rfl, h.own.fr hfr hnot, .inr ⟨rfl, hlow w' hfr, _, _, _, by omega, hF'⟩⟩
    · by_cases h1 : fu = 1
      · subst h1
        refine (logapp_dead2 w W.heap.size p f b m st [114] (fileOf ls) _ hF ⟨#[114]⟩ rfl rfl lv ls.flatten hlv h.low.size v new hvS hne hs.fits (by omega) (by omega) (by omega) hs0 (by omega)).mono ?_
        rintro e w' ⟨rfl, hF', hfr⟩
        replace hfr := hfr.mono (S' := LSv f b p lv) (fun _ _ h => .inl h)
        exact ⟨7, rfl, h.own.fr hfr hnot, .inr ⟨rfl, hlow w' hfr, _, _, _, by omega, hF'⟩⟩
      · have s1 : stepF fu = fu - 1 := by unfold stepF; rw [if_pos (by omega)]
        have s2 : stepF (stepF fu) = fu - 2 := by rw [s1]; unfold stepF; rw [if_pos (by omega)]; omega
        refine (logapp_ok w W.heap.size p f b m st [114] (fileOf ls) _ fu h0 (by rw [s1]; omega) (by omega) hF ⟨#[114]⟩ rfl rfl lv ls.flatten hlv h.low.size v new hvS hne hs.fits (by omega) (by omega) (by omega) hs0 (by omega)).mono ?_
        rintro e w' ⟨rfl, hF', ⟨lv', hl', hown⟩, hfr⟩
        rw [s2, ← e1] at hF'
        refine ⟨0, rfl, h.own.fr hfr hnot, .inl ⟨rfl, fu - 2, m + 2, st + 2, lv', by omega, by omega, hlow w' hfr, hF', by simp; omega, by omega, by simp; omega, by simpa using hl', fun g hg hh => ?_⟩⟩
        exact hapart g hg (hown g hh (h.own.tag hg).1.lt)

/-- behind the loop: the disk's file is that of ks, and F behind it, torn or none -/
structure WEnd (W w : World) (f b : Nat) (s10 s11 : Value) : Prop where
  low : Below W.heap.size W w
  ex : ∃ (ks : List (List (List UInt8))) (last : List (List UInt8)) (F : List UInt8) (m : Nat) (st fu : Int) (dead : Bool), SRecs W w s10 ks.flatten ∧ Recs W s11 last ∧ Files w f b m (one [114] (fileOf ks ++ F) (fileOf ks).length) st fu dead ∧ m ≤ 1000 ∧ (∀ l ∈ ks, Small l) ∧ ks.length ≤ 100 ∧ Small last ∧ (F = [] ∨ F = frame (body last))

theorem small_nil : Small [] := ⟨by simp, by simp⟩
/-- what is left of a torn file opens with the records that are sure, or with those of the last list too -/
theorem wend_open {w : World} {f b m : Nat} {st : Int} {c : Nat} {ks : List (List (List UInt8))} {last : List (List UInt8)} {F : List UInt8} (hk : ∀ l ∈ ks, Small l) (hkl : ks.length ≤ 100) (hl : Small last) (hF : F = [] ∨ F = frame (body last))
    (h : Files w f b m (one [114] ((fileOf ks ++ F).take ((fileOf ks).length + c)) ((fileOf ks).length + c)) st (-1) false) (hm : m ≤ 1000) (h0 : 0 ≤ st) (h1 : st ≤ 1000) :
    Calls Tryz.prog 21 #[.pointer (some ⟨f, 0, none⟩), .string ⟨#[114]⟩] w fun e w' => ∃ p rs, e = .returned (.tuple #[.pointer (some ⟨p, 0, none⟩), .int .i64 0]) ∧ LogAt w' w.heap.size p f ⟨#[114]⟩ rs ∧ (rs = ks.flatten ∨ rs = ks.flatten ++ last) ∧ Fr (fun k => k = f ∨ k = b) w w' := by
  have hfl := fileOf_len ks hk
  have hfr := hl.frame_le
  have hle := holds_le' h
  have et : (fileOf ks ++ F).take ((fileOf ks).length + c) = fileOf ks ++ F.take c := by rw [List.take_append, List.take_of_length_le (by omega), Nat.add_sub_cancel_left]
  rw [et] at h hle
  have hcF : c ≤ F.length := by simp at hle; omega
  have hFl : F.length ≤ 20000 := by
    rcases hF with rfl | rfl
    · simp
    · omega
  have hfit : ∀ l ∈ ks, Fits l := fun l hl => (hk l hl).fits
  have hlen : (fileOf ks ++ F.take c).length = (fileOf ks).length + c := by simp; omega
  by_cases hc : c = 0
  · subst hc
    rw [List.take_zero, List.append_nil, Nat.add_zero] at h
    refine (open_whole w f b m st [114] (fileOf ks) _ h ⟨#[114]⟩ rfl rfl (by omega) (by omega) h0 (by omega) ks.flatten (scan_whole ks hfit)).mono ?_
    rintro e w' ⟨p, rfl, hl', -, hb⟩
    exact ⟨p, _, rfl, hl', .inl rfl, Fr.of_below hb⟩
  · rcases hF with rfl | rfl
    · simp at hcF; omega
    · by_cases hcl : c = (frame (body last)).length
      · rw [hcl, List.take_length] at h hlen
        have hsc : scan (fileOf ks ++ frame (body last)) = some (ks.flatten ++ last, (fileOf ks ++ frame (body last)).length) := by
          have h2 := scan_frame last [] hl.fits
          rw [List.append_nil, scan_nil] at h2
          rw [scan_file ks _ hfit, h2]
          simp
        refine (open_whole w f b m st [114] _ _ h ⟨#[114]⟩ rfl rfl (by omega) (by omega) h0 (by omega) _ hsc).mono ?_
        rintro e w' ⟨p, rfl, hl', -, hb⟩
        exact ⟨p, _, rfl, hl', .inr rfl, Fr.of_below hb⟩
      · have hsc : scan (fileOf ks ++ (frame (body last)).take c) = some (ks.flatten, (fileOf ks).length) := by
          rw [scan_file ks _ hfit, scan_short (body last) hl.fits c (by omega)]
          simp
        refine (open_cut w f b m st [114] _ _ h ⟨#[114]⟩ rfl rfl (by omega) (by omega) h0 (by omega) ks.flatten (fileOf ks).length hsc (by omega)).mono ?_
        rintro e w' ⟨p, rfl, hl', -, hfr'⟩
        exact ⟨p, _, rfl, hl', .inl rfl, hfr'⟩
end Go.Proofs.YtpnlcogbahjnoaaGreat.F
