/- (*Files).Flip on a disk with one file. Conditions stand at each theorem. -/
import Derived.Test.YtpnlcogbahjnoaaOne
import Derived.Test.YtpnlcogbahjnoaaDeeds
import Derived.BigRegion
namespace Go.Proofs.Ytpnlcogbahjnoaa.F
open Go.RowKit Go.Proofs.Ytpnlcogbahjnoaa.M
set_option linter.unusedVariables false

/-- byte c with bit i turned -/
def flipB (c : UInt8) (i : Nat) : UInt8 := UInt8.ofNat (c.toNat ^^^ 2 ^ i)
def flipAt (x : List UInt8) (n : Nat) : List UInt8 := x.set (n / 8) (flipB (x.getD (n / 8) 0) (n % 8))
theorem flip_bits : ∀ (c : Fin 256) (i : Fin 8), bits .xor .u8 (c.val : Int) (2 ^ i.val % 256) = ((c.val ^^^ 2 ^ i.val : Nat) : Int) ∧ c.val ^^^ 2 ^ i.val < 256 := by decide +kernel
theorem flip_byte (c : UInt8) (i : Nat) (hi : i < 8) : bits .xor .u8 (c.toNat : Int) (2 ^ i % 256) = ((flipB c i).toNat : Nat) := by
  obtain ⟨h1, h2⟩ := flip_bits ⟨c.toNat, c.toNat_lt⟩ ⟨i, hi⟩
  simp only at h1 h2
  rw [h1, flipB, UInt8.toNat_ofNat', Nat.mod_eq_of_lt h2]
theorem ix_own (g off cap N i : Nat) (hi : i < N) (k : IntKind) (w' : World) : (Instr.indexAt 22 (.slice (some ⟨g, off, none⟩) N cap) (.int k i)).run Try.prog w' = .ok (.pointer (some ⟨g, off + i, none⟩)) w' := by
  obtain ⟨i5, hi5, hz50, hz51, hz52⟩ := info_parts info5
  simp [Instr.indexAt, run_underlying Try.underlying22, asIntOf, sizeOf, typeInfo, hi5, hz51, hi, add_map]

set_option maxRecDepth 100000 in
set_option maxHeartbeats 1000000 in
theorem flip_any (w : World) (f b m : Nat) (st fu : Int) (dead : Bool) (k x : List UInt8) (l : Nat) (h : Files w f b m (one k x l) st fu dead) (s : ByteArray) (hk : s.data.toList = k) (hs : s.size ≤ maxLen) (n : Nat) (hn : n < 8 * x.length) (hl : x.length ≤ 1073741824) (hm : m ≤ 1099511627776) :
    Calls Try.prog 26 #[.pointer (some ⟨f, 0, none⟩), .string s, .int .i64 n] w fun e w' => e = .returned (.bool true) ∧ Files w' f b (m + 1) (one k (flipAt x n) l) st fu dead ∧ Fr (fun k => k = b) w w' := by
  obtain ⟨D, hD, hH⟩ := h.map
  obtain ⟨sa, scap, lk1, _, hob, hcl, hsc, hsm⟩ := look hD hH s hs
  rw [hk, one_cb, one_cl] at lk1
  rw [hk, one_cb] at hob
  rw [hk, one_cb, one_cl] at hcl
  rw [hk, one_cb] at hsc
  have c1 := cell_at h.at_ 1
  simp at c1
  have hn8 : n / 8 < x.length := by omega
  have hfl : ∀ (x : Value) (y : Int) (w : World), (Instr.field 90 (.agg #[x, .int .i64 y]) 0).run Try.prog w = .ok x w := fun _ _ _ => by kernel_rfl
  have HF := Lib.hid h
  have HO := Lib.hid hob
  clear h hD hH hob
  go_enter Try.func26, Try.ntmps26
  go_wp2_with fail
  have hA : Below w.heap.size w (w.alloc (.cells #[.slice sa x.length scap, .int .i64 l] 90)) := (Below.refl _ _).alloc (Nat.le_refl _) _
  have z1 := heap_alloc_new w (.cells #[.slice sa x.length scap, .int .i64 l] 90)
  have hzs : w.heap.size < (w.alloc (.cells #[.slice sa x.length scap, .int .i64 l] 90)).heap.size := by simp
  generalize w.alloc (.cells #[.slice sa x.length scap, .int .i64 l] 90) = w2 at *
  refine (clone_any w2 _ x (HO.out.1.below hA) (by omega)).mono ?_
  rintro e w3 ⟨v3, rfl, ho3, hb3⟩
  have ho3' : Owns w3 w2.heap.size 5 1 v3 x.length (x.map u8) := by
    rcases ho3 with ho3 | ⟨_, h0, _⟩
    · exact ho3
    · omega
  obtain ⟨hxl, hh | ⟨g, off, cap, cur, rfl, hgb, hg, hcap, hcm, hcs, hcur⟩⟩ := ho3'
  · omega
  have z3 := (hb3.block w.heap.size hzs).trans z1
  have z4 := heap_setCell_at z3 0 (.slice (some ⟨g, off, none⟩) x.length cap)
  have y0 := cell_at z3 0
  have yf0 := free_at z3 0
  have hgz : g ≠ w.heap.size := by omega
  have hg4 : (w3.setCell ⟨w.heap.size, 0, none⟩ (.slice (some ⟨g, off, none⟩) x.length cap)).heap[g]? = some (.cells cur 5 (0, 0)) := (heap_setCell_far 0 _ hgz).trans hg
  have F4 : Fr (fun _ => False) w (w3.setCell ⟨w.heap.size, 0, none⟩ (.slice (some ⟨g, off, none⟩) x.length cap)) := (Fr.of_below (hA.trans (hb3.mono hA.size))).setCell _ _ (fun hh => absurd hh (Nat.lt_irrefl _))
  simp at z4 y0
  have Z4 := Lib.hid z4
  have HG4 := Lib.hid hg4
  have HF4 := Lib.hid F4
  have HCUR := Lib.hid hcur
  have hb3s : w.heap.size < g := by omega
  clear z4 hg4 F4 hg z3 z1 ho3 hcur hb3 hA lk1
  go_upto_region 5 with fail
  generalize w3.setCell ⟨w.heap.size, 0, none⟩ (.slice (some ⟨g, off, none⟩) x.length cap) = w4 at *
  clear y0 yf0
  have hix : ∀ (k : IntKind) (w' : World), (Instr.indexAt 22 (.slice (some ⟨g, off, none⟩) x.length cap) (.int k ((n : Int) / 8))).run Try.prog w' = .ok (.pointer (some ⟨g, off + n / 8, none⟩)) w' := by
    intro k w'
    have e : ((n / 8 : Nat) : Int) = (n : Int) / 8 := by omega
    have := ix_own g off cap x.length (n / 8) hn8 k w'
    rw [e] at this
    exact this
  have hcc : cur[off + n / 8]? = some (.int .u8 x[n / 8].toNat) := HCUR.out (n / 8) _ (by simp [hn8, u8])
  have cg : w4.cell? ⟨g, off + n / 8, none⟩ = some (.int .u8 x[n / 8].toNat) := by rw [cell_at HG4.out]; exact hcc
  have fg := free_at HG4.out (off + n / 8)
  have cz0 := cell_at Z4.out 0
  simp at cz0
  have hfb := flip_byte x[n / 8] (n % 8) (by omega)
  clear hcc
  have hgetd : x.getD (n / 8) 0 = x[n / 8] := by simp [List.getD_eq_getElem?_getD, hn8]
  have hflip : flipAt x n = x.set (n / 8) (flipB x[n / 8] (n % 8)) := by rw [flipAt, hgetd]
  have HFL := Lib.hid hflip
  have HL : Hid ((flipAt x n).length = x.length) := Lib.hid (by rw [hflip]; simp)
  clear hgetd hflip
  generalize flipB x[n / 8] (n % 8) = c' at *
  go_region
  have F5 : Fr (fun k => k = g) w4 (w4.setCell ⟨g, off + n / 8, none⟩ (.int .u8 c'.toNat)).drew := (Fr.setCell (S := fun k => k = g) (Fr.refl _ _) _ _ (fun _ => rfl)).drew
  have N5 : Fr (fun _ => False) w (w4.setCell ⟨g, off + n / 8, none⟩ (.int .u8 c'.toNat)).drew := HF4.out.trans F5 (fun k hk hh => by have := hb3s; omega)
  have z5 := F5.obj Z4.out (fun e => hgz e.symm)
  have g5 : (w4.setCell ⟨g, off + n / 8, none⟩ (.int .u8 c'.toNat)).drew.heap[g]? = some (.cells (cur.setIfInBounds (off + n / 8) (.int .u8 c'.toNat)) 5 (0, 0)) := heap_setCell_at HG4.out (off + n / 8) (.int .u8 c'.toNat)
  generalize (w4.setCell ⟨g, off + n / 8, none⟩ (.int .u8 c'.toNat)).drew = w5 at *
  have ob5 : OB w5 (.slice (some ⟨g, off, none⟩) x.length cap) (flipAt x n) := by
    rw [HFL.out]
    refine ⟨⟨by simp, .inr ⟨⟨g, off, none⟩, cap, by simp, by simp; omega, hcm, fun j u hj => ⟨rfl, ?_⟩⟩⟩, fun g' hg' _ => ?_⟩
    · rw [cell_at g5]
      simp only
      rw [List.map_set] at hj
      by_cases hjn : j = n / 8
      · subst hjn
        rw [List.getElem?_set_self (by simpa using hn8)] at hj
        cases hj
        rw [Array.getElem?_setIfInBounds_self_of_lt (by have := (Array.getElem?_eq_some_iff.1 (HCUR.out (n / 8) (M.u8 x[n / 8]) (by simp [hn8]))).1; exact this)]
        rfl
      · rw [List.getElem?_set_ne (fun e => hjn e.symm)] at hj
        rw [Array.getElem?_setIfInBounds_ne (by omega)]
        exact HCUR.out j u hj
    · simp only [Value.ownBlock, Option.some.injEq] at hg'
      subst hg'
      exact ⟨_, _, g5⟩
  obtain ⟨w6, hrun, hF6, G6, E6⟩ := files_put HF.out N5 s hs hm (.slice (some ⟨g, off, none⟩) x.length cap) (flipAt x n) l (by rw [HL.out]; exact hcl) ob5
  have F5' := HF.out.fr N5 id id (fun _ h => h.elim)
  have d1 := N5.cell_some c1 id
  obtain ⟨dz0, dz1⟩ := two_cells z5
  have tz : Tag w5 w.heap.size 90 := ⟨_, _, z5⟩
  have nz : ¬ w.heap.size = b := fun e => F5'.not_tag _ (e ▸ tz)
  have e1 := E6.cell_some d1 HF.out.f_ne
  have e2 := E6.cell_some dz0 nz
  have e3 := E6.cell_some dz1 nz
  have HF6 := Lib.hid hF6
  have HN5 := Lib.hid N5
  have HE6 := Lib.hid E6
  clear F5 z5 g5 ob5 tz nz F5' hF6 G6 N5 E6 cg fg cz0 hfb hix c1
  go_upto_region 6 with fail
  go_region_held3 (fun w' => w'.cell? ⟨f, 1, none⟩ = some (.map (some b)) ∧ w'.cell? ⟨w.heap.size, 0, none⟩ = some (.slice (some ⟨g, off, none⟩) x.length cap) ∧ w'.cell? ⟨w.heap.size, 1, none⟩ = some (.int .i64 l)) (simp [*]) (fail)
  go_wp2_with fail
  go_ret
  have hF6 := HF6.out
  rw [hk, upd_one] at hF6
  exact ⟨rfl, hF6, (HN5.out.mono (S' := fun k => k = b) (fun _ _ h => h.elim)).trans HE6.out (fun _ _ h => h)⟩
end Go.Proofs.Ytpnlcogbahjnoaa.F
