/- The reference's Reader. Conditions stand at each theorem. -/
import Derived.Test.YtpnlcogbahjnoaaGreatQRecs
import Derived.Test.YtpnlcogbahjnoaaGreatList
import Derived.WalkMore
namespace Go.Proofs.YtpnlcogbahjnoaaGreat.F
open Go.RowKit Go.Proofs.YtpnlcogbahjnoaaGreat.M
set_option linter.unusedVariables false

/-- block p is a reader of the reference that has bs left, and failed by f -/
def QRdAt (w : World) (p : Nat) (bs : List UInt8) (f : Int) : Prop := ∃ sv, w.heap[p]? = some (.cells #[sv, .int .i64 f] 126 (0, 0)) ∧ OB w sv bs
theorem QRdAt.fr {S : Nat → Prop} {w w' : World} {p : Nat} {bs : List UInt8} {f : Int} (h : QRdAt w p bs f) (hf : Fr S w w') (hp : ¬ S p) (hs : ∀ g, S g → ¬ Tag w g 5) : QRdAt w' p bs f := by
  obtain ⟨sv, h1, h2⟩ := h
  exact ⟨sv, hf.obj h1 hp, h2.fr hf hs⟩
theorem QRdAt.below {w w' : World} {p : Nat} {bs : List UInt8} {f : Int} (h : QRdAt w p bs f) (hb : Below w.heap.size w w') : QRdAt w' p bs f :=
  h.fr (Fr.of_below (S := fun _ => False) hb) id (fun _ h => h.elim)
theorem QRdAt.lt {w : World} {p : Nat} {bs : List UInt8} {f : Int} (h : QRdAt w p bs f) : p < w.heap.size := by
  obtain ⟨sv, h1, h2⟩ := h
  exact lt_of_obj h1
theorem QRdAt.not_u8 {w : World} {p : Nat} {bs : List UInt8} {f : Int} (h : QRdAt w p bs f) : ¬ Tag w p 5 := by
  obtain ⟨sv, h1, h2⟩ := h
  exact Tag.not h1 (by decide)
theorem QRdAt.fail {w : World} {p : Nat} {bs : List UInt8} {f : Int} (h : QRdAt w p bs f) : w.cell? ⟨p, 1, none⟩ = some (.int .i64 f) := by
  obtain ⟨sv, h1, h2⟩ := h
  simpa using cell_at h1 1
theorem qrd_put {w : World} {p : Nat} {sv sv2 : Value} {f : Int} {l : List UInt8} (h : w.heap[p]? = some (.cells #[sv, .int .i64 f] 126 (0, 0))) (ho : OB w sv2 l) :
    QRdAt (w.setCell ⟨p, 0, none⟩ sv2) p l f ∧ Fr (fun k => k = p) w (w.setCell ⟨p, 0, none⟩ sv2) := by
  have z := heap_setCell_at h 0 sv2
  have F : Fr (fun k => k = p) w (w.setCell ⟨p, 0, none⟩ sv2) := Fr.setCell (Fr.refl _ _) _ _ (fun _ => rfl)
  exact ⟨⟨sv2, by simpa using z, ho.fr F (by rintro g rfl; exact Tag.not h (by decide))⟩, F⟩
theorem OB.nil (w : World) : OB w (.slice none 0 0) [] := ⟨Reads.nil w 1, fun g hg => by simp [Value.ownBlock] at hg⟩

set_option maxHeartbeats 400000 in
theorem qstop_any (w : World) (p : Nat) (bs : List UInt8) (h : QRdAt w p bs 0) (c : Int) :
    Calls Tryz.prog 100 #[.pointer (some ⟨p, 0, none⟩), .int .i64 c] w fun e w' => e = .returned (.tuple #[]) ∧ QRdAt w' p [] c ∧ Fr (fun k => k = p) w w' := by
  obtain ⟨sv, z, ho⟩ := h
  have c1 := cell_at z 1
  have f1 := free_at z 1
  have z2 := heap_setCell_at z 1 (.int .i64 c)
  have c0 := cell_at z2 0
  have f0 := free_at z2 0
  simp at c1 z2 c0 f0
  have z3 := heap_setCell_at z2 0 (.slice none 0 0)
  simp at z3
  have HZ3 := Lib.hid z3
  have F1 : Fr (fun k => k = p) w (w.setCell ⟨p, 1, none⟩ (.int .i64 c)) := Fr.setCell (Fr.refl _ _) _ _ (fun _ => rfl)
  have F : Fr (fun k => k = p) w ((w.setCell ⟨p, 1, none⟩ (.int .i64 c)).setCell ⟨p, 0, none⟩ (.slice none 0 0)) := Fr.setCell F1 _ _ (fun _ => rfl)
  have HF := Lib.hid F
  clear z z2 z3 F F1 ho
  go_enter Tryz.func100, Tryz.ntmps100
  go_wp2_with fail
  go_end0
  exact ⟨rfl, ⟨_, HZ3.out, OB.nil _⟩, HF.out⟩

def QNumOut (w' : World) (p : Nat) (e : Ending) : Except Int (Nat × List UInt8) → Prop
  | .ok (n, l) => e = .returned (.int .i64 n) ∧ QRdAt w' p l 0
  | .error c => e = .returned (.int .i64 0) ∧ QRdAt w' p [] c
theorem qnum_out {w' : World} {p : Nat} {e : Ending} {bs : List UInt8} {X : Except Int (Nat × List UInt8)} (h : dec bs = X) (h' : QNumOut w' p e X) : QNumOut w' p e (dec bs) := h ▸ h'

theorem and127_u8f : ∀ x : Fin 256, bits .and .u8 (x.val : Int) 127 = ((x.val % 128 : Nat) : Int) := by decide +kernel
theorem shl_or' (i acc c : Nat) (hi : i < 6) (ha : acc < 2 ^ (7 * i)) (hc : c < 256) :
    bits .or .i64 (acc : Int) (wrap64 (wrap64 (bits .and .u8 (c : Int) 127) * 2 ^ (7 * i))) = ((acc + c % 128 * 2 ^ (7 * i) : Nat) : Int) := by
  have h1 : bits .and .u8 (c : Int) 127 = ((c % 128 : Nat) : Int) := and127_u8f ⟨c, hc⟩
  have h2 : wrap64 ((c % 128 : Nat) : Int) = ((c % 128 : Nat) : Int) := by
    rw [← IntWalk.i64_left]
    exact IntWalk.i64_in _ (by omega)
  have hp : (2 : Nat) ^ (7 * i) ≤ 2 ^ 35 := Nat.pow_le_pow_right (by decide) (by omega)
  have hm : c % 128 * 2 ^ (7 * i) ≤ 127 * 2 ^ 35 := Nat.mul_le_mul (by omega) hp
  have hso := shl_or i acc c hi ha hc
  have e2 : ((c % 128 : Nat) : Int) * 2 ^ (7 * i) = ((c % 128 * 2 ^ (7 * i) : Nat) : Int) := by simp
  rw [e2] at hso
  rw [h1, h2, e2]
  generalize c % 128 * 2 ^ (7 * i) = P at *
  have e1 : wrap64 ((P : Nat) : Int) = ((P : Nat) : Int) := by
    rw [← IntWalk.i64_left]
    exact IntWalk.i64_in _ (by omega)
  rw [e1]
  exact hso

set_option maxRecDepth 100000 in
set_option maxHeartbeats 1000000 in
theorem qnum_any (w : World) (p : Nat) (bs : List UInt8) (h : QRdAt w p bs 0) :
    Calls Tryz.prog 88 #[.pointer (some ⟨p, 0, none⟩)] w fun e w' => QNumOut w' p e (dec bs) ∧ Fr (fun k => k = p) w w' := by
  have hfl := h.fail
  have HR := Lib.hid h
  obtain ⟨sv, z, ho⟩ := h
  obtain ⟨a, cap, rfl, hcap, hm⟩ := ho.1.shape
  have c0 := cell_at z 0
  have f0 := free_at z 0
  simp at c0
  have HZ := Lib.hid z
  have HO := Lib.hid ho
  clear z ho
  go_enter Tryz.func88, Tryz.ntmps88
  go_wp2_with fail
  go_loopg [3, 4] 6 (fun k s3 s4 wr => ∃ (i acc : Nat), i ≤ 6 ∧ i ≤ bs.length ∧ k + i = 6 ∧ s4 = .int .i64 i ∧ s3 = .int .i64 acc ∧ acc < 2 ^ (7 * i) ∧ Hid (dec bs = decGo (6 - i) i acc (bs.drop i)) ∧ wr = w)
  case atStart => exact ⟨0, 0, by omega, by omega, by omega, rfl, rfl, by simp, Lib.hid rfl, rfl⟩
  case round =>
    obtain ⟨i, acc, hi, hib, hk, rfl, rfl, hacc, hd, rfl⟩ := hrel
    by_cases hlt : i < 6
    · have e6 : 6 - i = (5 - i) + 1 := by omega
      by_cases hend : bs.length ≤ i
      · have hout : Hid (dec bs = .error 2) := by
          refine Lib.hid ?_
          rw [hd.out, e6, List.drop_of_length_le hend]
          rfl
        go_wp2_with fail
        refine (qstop_any wr p bs HR.out 2).mono ?_
        rintro e w' ⟨rfl, hr, hf⟩
        have HR' := Lib.hid hr
        clear hr
        go_wp2_with fail
        go_ret
        exact ⟨qnum_out hout.out ⟨rfl, HR'.out⟩, hf⟩
      · have hlt2 : i < bs.length := by omega
        obtain ⟨g, o, hix, hcell, -⟩ := bytes_ix HO.out.1 i hlt2
        have hdrop : bs.drop i = bs[i] :: bs.drop (i + 1) := List.drop_eq_getElem_cons hlt2
        have hdec : Hid (dec bs = if bs[i].toNat < 128 then (if (0 < bs[i].toNat ∨ i = 0) ∧ acc + bs[i].toNat % 128 * 2 ^ (7 * i) ≤ 1099511627776 then .ok (acc + bs[i].toNat % 128 * 2 ^ (7 * i), bs.drop (i + 1)) else .error 4) else decGo (5 - i) (i + 1) (acc + bs[i].toNat % 128 * 2 ^ (7 * i)) (bs.drop (i + 1))) := by
          refine Lib.hid ?_
          rw [hd.out, e6, hdrop]
          rfl
        have hc := bs[i].toNat_lt
        have HDROP := Lib.hid hdrop
        clear hdrop
        generalize bs[i].toNat = c at *
        have hor : bits .or .i64 (acc : Int) (wrap64 (wrap64 (bits .and .u8 (c : Int) 127) * 2 ^ (7 * i))) = ((acc + c % 128 * 2 ^ (7 * i) : Nat) : Int) := shl_or' i acc c hlt hacc hc
        have hacc' : acc + c % 128 * 2 ^ (7 * i) < 2 ^ (7 * (i + 1)) := by
          have hm : c % 128 * 2 ^ (7 * i) ≤ 127 * 2 ^ (7 * i) := Nat.mul_le_mul_right _ (by omega)
          have e1 : (2 : Nat) ^ (7 * (i + 1)) = 128 * 2 ^ (7 * i) := by rw [Nat.mul_add, Nat.pow_add, Nat.mul_comm]
          omega
        have hzero : c = 0 → acc + c % 128 * 2 ^ (7 * i) = acc := by intro h; rw [h]; simp
        by_cases hbig : c < 128
        · rw [if_pos hbig] at hdec
          by_cases h0 : 0 < c
          · generalize acc + c % 128 * 2 ^ (7 * i) = A at *
            clear hzero
            by_cases hA : A ≤ 1099511627776
            · rw [if_pos ⟨.inl h0, hA⟩] at hdec
              by_cases hcn : cap = i + 1
              · subst hcn
                go_wp2_with fail
                go_ret
                have hd := qrd_put HZ.out (sv2 := .slice a 0 0) (ob_none HO.out (i + 1) (by omega))
                exact ⟨qnum_out hdec.out ⟨rfl, hd.1⟩, hd.2⟩
              · go_wp2_with fail
                go_ret
                have hd := qrd_put HZ.out (ob_rest HO.out (i + 1) (bs.length - (i + 1)) (by omega))
                exact ⟨qnum_out hdec.out ⟨rfl, hd.1⟩, hd.2⟩
            · rw [if_neg (fun h => hA h.2)] at hdec
              go_wp2_with fail
              refine (qstop_any wr p bs HR.out 4).mono ?_
              rintro e w' ⟨rfl, hr, hf⟩
              have HR' := Lib.hid hr
              clear hr
              go_wp2_with fail
              go_ret
              exact ⟨qnum_out hdec.out ⟨rfl, HR'.out⟩, hf⟩
          · obtain rfl : c = 0 := by omega
            have hz := hzero rfl
            rw [hz] at hdec
            clear hor hzero hacc' hz
            have hb0 : wrap64 0 = 0 := by rw [← IntWalk.i64_left]; rfl
            have hb2 : bits .and .u8 0 127 = 0 := by decide
            by_cases hi0 : i = 0
            · subst hi0
              obtain rfl : acc = 0 := by simpa using hacc
              rw [if_pos ⟨.inr rfl, by decide⟩] at hdec
              have hb1 : bits .or .i64 0 0 = 0 := by decide
              clear hend hib HDROP
              generalize hL : bs.length = L at *
              have HL := Lib.hid hL
              have hix' : ∀ (k : IntKind) (w' : World), (Instr.indexAt 52 (.slice a L cap) (.int k 0)).run Tryz.prog w' = .ok (.pointer (some ⟨g, o, none⟩)) w' := hix
              clear hL hix
              by_cases hcn : cap = 1
              · subst hcn
                go_wp2_with fail
                go_ret
                have hd := qrd_put HZ.out (sv2 := .slice a 0 0) (ob_none HO.out 1 (by have := HL.out; omega))
                exact ⟨qnum_out hdec.out ⟨rfl, hd.1⟩, hd.2⟩
              · go_wp2_with fail
                go_ret
                have hd := qrd_put HZ.out (ob_rest HO.out 1 (L - 1) (by have := HL.out; omega))
                exact ⟨qnum_out hdec.out ⟨rfl, hd.1⟩, hd.2⟩
            · rw [if_neg (fun h => h.1.elim (fun h => absurd h (by decide)) hi0)] at hdec
              have hin : ¬ ((i : Int) = 0) := by omega
              have hip : (0 : Int) < i := by omega
              go_wp2_with fail
              refine (qstop_any wr p bs HR.out 4).mono ?_
              rintro e w' ⟨rfl, hr, hf⟩
              have HR' := Lib.hid hr
              clear hr
              go_wp2_with fail
              go_ret
              exact ⟨qnum_out hdec.out ⟨rfl, HR'.out⟩, hf⟩
        · rw [if_neg hbig] at hdec
          generalize acc + c % 128 * 2 ^ (7 * i) = A at *
          clear hzero
          go_wp2_with fail
          go_roundg (6 - (i + 1))
          case measure => omega
          case rel => exact ⟨i + 1, A, by omega, by omega, by omega, by simp, rfl, hacc', by rw [show 6 - (i + 1) = 5 - i by omega]; exact hdec, rfl⟩
    · have hout : Hid (dec bs = .error 4) := by
        refine Lib.hid ?_
        have : 6 - i = 0 := by omega
        rw [hd.out, this]
        rfl
      go_wp2_with fail
      refine (qstop_any wr p bs HR.out 4).mono ?_
      rintro e w' ⟨rfl, hr, hf⟩
      have HR' := Lib.hid hr
      clear hr
      go_wp2_with fail
      go_ret
      exact ⟨qnum_out hout.out ⟨rfl, HR'.out⟩, hf⟩
end Go.Proofs.YtpnlcogbahjnoaaGreat.F
