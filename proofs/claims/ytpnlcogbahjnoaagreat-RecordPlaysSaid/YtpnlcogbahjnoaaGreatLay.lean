/- codec.lay and number: what they compute. Conditions stand at each theorem. -/
import Derived.Test.YtpnlcogbahjnoaaGreatCrc
import Derived.Test.YtpnlcogbahjnoaaGreatSl
namespace Go.Proofs.YtpnlcogbahjnoaaGreat.F
open Go.RowKit Go.Proofs.YtpnlcogbahjnoaaGreat.M
set_option linter.unusedVariables false

def be4 (x : Nat) : List UInt8 := [UInt8.ofNat (x / 16777216), UInt8.ofNat (x / 65536), UInt8.ofNat (x / 256), UInt8.ofNat x]
def beIx (x j : Nat) : UInt8 := UInt8.ofNat (x / 2 ^ (24 - 8 * j))
theorem be4_take (x j : Nat) (hj : j < 4) : (be4 x).take (j + 1) = (be4 x).take j ++ [beIx x j] := by
  obtain rfl | rfl | rfl | rfl : j = 0 ∨ j = 1 ∨ j = 2 ∨ j = 3 := by omega
  · rfl
  · rfl
  · rfl
  · simp [be4, beIx]
theorem wrap_u8 (n : Nat) : IntKind.u8.wrap (n : Int) = ((UInt8.ofNat n).toNat : Nat) := by
  simp [IntKind.wrap, IntKind.bits, IntKind.signed, UInt8.toNat_ofNat']
theorem Below.trans' {B : Nat} {a b c : World} (h : Below B a b) (k : Below B b c) : Below B a c := h.trans k

set_option maxRecDepth 100000 in
set_option maxHeartbeats 2000000 in
theorem lay_any (w : World) (base : Nat) (hbase : base ≤ w.heap.size) (v : Value) (bs : List UInt8) (hv : Owns w base 5 1 v bs.length (bs.map M.u8)) (hl : bs.length ≤ 1099511627776) (x : Nat) (hx : x < 4294967296) :
    Calls Tryz.prog 74 #[v, .int .i64 4, .int .u64 x] w fun e w' => ∃ v', e = .returned v' ∧ Owns w' base 5 1 v' (bs.length + 4) ((bs ++ be4 x).map M.u8) ∧ Below base w w' := by
  obtain ⟨i, hi, hz0, hz1, hz2⟩ := info_parts infoU8
  have HV := Lib.hid hv
  have Hi := Lib.hid hi
  have Hz0 := Lib.hid hz0
  have Hz1 := Lib.hid hz1
  have Hz2 := Lib.hid hz2
  clear hv hi hz0 hz1 hz2
  go_enter Tryz.func74, Tryz.ntmps74
  go_wp2_with fail
  go_loopg [0, 7] 4 (fun k s0 s7 wr => ∃ j : Nat, j ≤ 4 ∧ k + j = 4 ∧ s7 = .int .i64 (24 - 8 * j : Int) ∧ Owns wr base 5 1 s0 (bs.length + j) ((bs ++ (be4 x).take j).map M.u8) ∧ Below base w wr)
  case atStart => exact ⟨0, by omega, by omega, rfl, by simpa using HV.out, Below.refl _ _⟩
  case round =>
    obtain ⟨j, hj, hk, rfl, ho, hb⟩ := hrel
    have HB := Lib.hid hb
    obtain ⟨a9, k9, rfl, hk9, hm9⟩ := ho.reads.shape
    have HO := Lib.hid ho
    clear ho hb
    by_cases hlt : j < 4
    · have hw8 := wrap_u8 (x / 2 ^ (24 - 8 * j))
      have hc7 : (24 - 8 * j : Int) = ((24 - 8 * j : Nat) : Int) := by omega
      have hix : UInt8.ofNat (x / 2 ^ (24 - 8 * j)) = beIx x j := rfl
      rw [hix] at hw8
      have hw9 : (x : Int) / 2 ^ (24 - 8 * j) % 256 = ((beIx x j).toNat : Nat) := by
        rw [← hw8]
        simp [IntKind.wrap, IntKind.bits, IntKind.signed]
      clear hw8 hix
      rw [hc7]
      have htk := be4_take x j hlt
      have he : (24 - 8 * j : Nat) ≤ 64 := by omega
      have hsub : (((24 - 8 * j : Nat) : Int) - 8) = (24 - 8 * ((j + 1 : Nat) : Int)) := by omega
      generalize 24 - 8 * j = s at *
      go_wp2_with (at_builtin; refine wpList_append_owns rfl _ _ 52 rfl base 5 i (.int .u8 0) 1 1 Tryz.underlying52 Hi.out Hz0.out Hz1.out Hz2.out rfl (.slice a9 (bs.length + j) k9) (bs.length + j) _ rfl (Owns.fr HO.out ((Fr.refl (fun _ => False) _).alloc _) (fun _ _ => id)) _ 1 [.int .u8 (beIx x j).toNat] rfl (Reads.one (heap_alloc_new wr _)) (by simp [Value.oneCell']) (bs.length + j + 1) rfl _ rfl ?hc (by omega) ?hd ?_; (case hc => omega); (case hd => exact Nat.le_trans (Nat.le_trans hbase HB.out.size) (by simp)); intro q k w' h1 h2 h3 h4 h5; have H1 := Lib.hid h1; have H4 := Lib.hid h4; clear h1 h4 h5)
      all_goals
        go_roundg (4 - (j + 1))
        case measure => omega
        case rel =>
          refine ⟨j + 1, by omega, by omega, ?_, ?_, ?_⟩
          · rw [show ((j + 1 : Nat) : Int) = (j : Int) + 1 from rfl]
          · have := H1.out
            rw [htk, ← List.append_assoc, List.map_append]
            exact this
          · have F : Fr (fun k => base ≤ k) wr w' := Fr.trans (S' := fun k => base ≤ k) ((Fr.refl _ wr).alloc _) (Fr.of_grown H4.out (fun k hk _ => (HO.out.base_le k hk).1)) (fun _ _ h => h)
            exact HB.out.trans (F.below (Nat.le_trans hbase HB.out.size) (fun _ h => h))
    · have hjn : j = 4 := by omega
      subst hjn
      go_wp2_with fail
      go_ret
      exact ⟨_, rfl, HO.out, HB.out⟩

/-- the number of some bytes, the highest first -/
def beNum (bs : List UInt8) : Nat := bs.foldl (fun x c => x * 256 + c.toNat) 0
theorem beNum_take (bs : List UInt8) (j : Nat) (hj : j < bs.length) : beNum (bs.take (j + 1)) = beNum (bs.take j) * 256 + bs[j].toNat := by
  rw [List.take_succ_eq_append_getElem hj, beNum, List.foldl_append]
  rfl
theorem beNum_lt (bs : List UInt8) : ∀ j, j ≤ bs.length → beNum (bs.take j) < 256 ^ j
  | 0, _ => by simp [beNum]
  | j + 1, hj => by
    rw [beNum_take bs j (by omega)]
    have := beNum_lt bs j (by omega)
    have hb := (bs[j]'(by omega)).toNat_lt
    rw [Nat.pow_succ]
    omega
theorem beNum_lt4 (bs : List UInt8) (h : bs.length ≤ 4) : beNum bs < 4294967296 := by
  have := beNum_lt bs bs.length (Nat.le_refl _)
  rw [List.take_length] at this
  exact Nat.lt_of_lt_of_le this (Nat.pow_le_pow_right (n := 256) (by decide) h)
theorem or_u64 (a b : Nat) (ha : a < 72057594037927936) (hb : b < 256) : bits .or .u64 ((a : Int) * 256) (b : Int) = ((a * 256 + b : Nat) : Int) := by
  have h1 : (a : Int) * 256 = ((a * 256 : Nat) : Int) := by omega
  rw [h1]
  show IntKind.u64.wrap (((BitVec.ofInt 64 ((a * 256 : Nat) : Int) ||| BitVec.ofInt 64 (b : Int)).toNat : Nat) : Int) = _
  have e : (BitVec.ofInt 64 ((a * 256 : Nat) : Int) ||| BitVec.ofInt 64 (b : Int)).toNat = a * 256 + b := by
    rw [BitVec.toNat_or, BitVec.ofInt_natCast, BitVec.ofInt_natCast, BitVec.toNat_ofNat, BitVec.toNat_ofNat, Nat.mod_eq_of_lt (by omega), Nat.mod_eq_of_lt (by omega)]
    rw [Nat.mul_comm]
    exact (Nat.two_pow_add_eq_or_of_lt (i := 8) hb a).symm
  rw [e]
  simp [IntKind.wrap, IntKind.bits, IntKind.signed]
  omega

set_option maxRecDepth 100000 in
set_option maxHeartbeats 2000000 in
theorem number_any (w : World) (v : Value) (bs : List UInt8) (hv : Bytes w v bs) (hl : bs.length ≤ 4) :
    Calls Tryz.prog 81 #[v] w fun e w' => e = .returned (.int .u64 (beNum bs : Nat)) ∧ w' = w := by
  obtain ⟨a, cap, rfl, hc, hm⟩ := hv.shape
  have HV := Lib.hid hv
  clear hv
  go_enter Tryz.func81, Tryz.ntmps81
  go_wp2_with fail
  go_loopg [3, 8] bs.length (fun k s3 s8 wr => ∃ j : Nat, j ≤ bs.length ∧ k + j = bs.length ∧ s8 = .int .i64 j ∧ s3 = .int .u64 (beNum (bs.take j) : Nat) ∧ wr = w)
  case atStart => exact ⟨0, by omega, by omega, rfl, rfl, rfl⟩
  case round =>
    obtain ⟨j, hj, hk, rfl, rfl, rfl⟩ := hrel
    by_cases hlt : j < bs.length
    · have hnext := beNum_take bs j hlt
      have hx := beNum_lt4 (bs.take j) (by simp; omega)
      obtain ⟨g, o, hix, hcell, -⟩ := bytes_ix HV.out j hlt
      have hb8 := bs[j].toNat_lt
      generalize bs[j].toNat = c at *
      generalize beNum (bs.take j) = x at *
      have hor := or_u64 x c (by omega) (by omega)
      have hwc : IntKind.u64.wrap (c : Int) = c := by
        simp [IntKind.wrap, IntKind.bits, IntKind.signed]
        omega
      go_wp2_with fail
      go_roundg (bs.length - (j + 1))
      case measure => omega
      case rel => exact ⟨j + 1, by omega, by omega, by simp, by rw [hnext]; exact congrArg (Value.int .u64) (by omega), rfl⟩
    · have hjn : j = bs.length := by omega
      subst hjn
      rw [List.take_length]
      go_wp2_with fail
      go_ret
      exact ⟨rfl, rfl⟩
end Go.Proofs.YtpnlcogbahjnoaaGreat.F
