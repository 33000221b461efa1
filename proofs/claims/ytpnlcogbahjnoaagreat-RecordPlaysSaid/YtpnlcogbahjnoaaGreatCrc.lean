/- codec.Crc, lay, number: what they compute. Conditions stand at each theorem. -/
import Derived.Test.YtpnlcogbahjnoaaGreatRef1
import Derived.Test.YtpnlcogbahjnoaaGreatArgs
import Derived.WalkSmall
namespace Go.Proofs.YtpnlcogbahjnoaaGreat.F
open Go.RowKit Go.Proofs.YtpnlcogbahjnoaaGreat.M
set_option linter.unusedVariables false

def cstep (x : Nat) : Nat := if x % 2 = 1 then (x / 2) ^^^ 3988292384 else x / 2
def cstepN : Nat → Nat → Nat
  | 0, x => x
  | n + 1, x => cstep (cstepN n x)
def crcAdd (x : Nat) (c : UInt8) : Nat := cstepN 8 (x ^^^ c.toNat)
def crcGo (x : Nat) (bs : List UInt8) : Nat := bs.foldl crcAdd x
def crc (bs : List UInt8) : Nat := 4294967295 ^^^ crcGo 4294967295 bs

theorem xor_lt {a b : Nat} (ha : a < 4294967296) (hb : b < 4294967296) : a ^^^ b < 4294967296 := Nat.xor_lt_two_pow (n := 32) ha hb
theorem cstep_lt {x : Nat} (h : x < 4294967296) : cstep x < 4294967296 := by
  unfold cstep
  split
  · exact xor_lt (by omega) (by decide)
  · omega
theorem cstepN_lt {x : Nat} (h : x < 4294967296) : ∀ n, cstepN n x < 4294967296
  | 0 => h
  | n + 1 => cstep_lt (cstepN_lt h n)
theorem u8_lt (c : UInt8) : c.toNat < 4294967296 := by have := c.toNat_lt; omega
theorem crcAdd_lt {x : Nat} (h : x < 4294967296) (c : UInt8) : crcAdd x c < 4294967296 := cstepN_lt (xor_lt h (u8_lt c)) 8
theorem crcGo_lt {x : Nat} (h : x < 4294967296) (bs : List UInt8) : crcGo x bs < 4294967296 := by
  induction bs generalizing x with
  | nil => exact h
  | cons c l ih => exact ih (crcAdd_lt h c)
theorem crcGo_take (x : Nat) (bs : List UInt8) (j : Nat) (hj : j < bs.length) : crcGo x (bs.take (j + 1)) = crcAdd (crcGo x (bs.take j)) bs[j] := by
  rw [List.take_succ_eq_append_getElem hj, crcGo, List.foldl_append]
  rfl
theorem crc_lt (bs : List UInt8) : crc bs < 4294967296 := xor_lt (by decide) (crcGo_lt (by decide) _)

theorem wrap_u32 (n : Nat) (h : n < 4294967296) : IntKind.u32.wrap (n : Int) = n := by
  simp [IntKind.wrap, IntKind.bits, IntKind.signed]
  omega
theorem xor_u32 (a b : Nat) (ha : a < 4294967296) (hb : b < 4294967296) : bits .xor .u32 (a : Int) (b : Int) = ((a ^^^ b : Nat) : Int) := by
  show IntKind.u32.wrap (((BitVec.ofInt 32 (a : Int) ^^^ BitVec.ofInt 32 (b : Int)).toNat : Nat) : Int) = _
  have e : (BitVec.ofInt 32 (a : Int) ^^^ BitVec.ofInt 32 (b : Int)).toNat = a ^^^ b := by
    rw [BitVec.toNat_xor, BitVec.ofInt_natCast, BitVec.ofInt_natCast, BitVec.toNat_ofNat, BitVec.toNat_ofNat, Nat.mod_eq_of_lt ha, Nat.mod_eq_of_lt hb]
  rw [e]
  exact wrap_u32 _ (xor_lt ha hb)
theorem and_u32 (a b : Nat) (ha : a < 4294967296) (hb : b < 4294967296) : bits .and .u32 (a : Int) (b : Int) = ((a &&& b : Nat) : Int) := by
  show IntKind.u32.wrap (((BitVec.ofInt 32 (a : Int) &&& BitVec.ofInt 32 (b : Int)).toNat : Nat) : Int) = _
  have e : (BitVec.ofInt 32 (a : Int) &&& BitVec.ofInt 32 (b : Int)).toNat = a &&& b := by
    rw [BitVec.toNat_and, BitVec.ofInt_natCast, BitVec.ofInt_natCast, BitVec.toNat_ofNat, BitVec.toNat_ofNat, Nat.mod_eq_of_lt ha, Nat.mod_eq_of_lt hb]
  rw [e]
  exact wrap_u32 _ (Nat.lt_of_le_of_lt Nat.and_le_left ha)
theorem step_u32 (a : Nat) (ha : a < 4294967296) : bits .xor .u32 ((a : Int) / 2) (bits .and .u32 3988292384 (IntKind.u32.wrap (-(bits .and .u32 (a : Int) 1)))) = (cstep a : Nat) := by
  have h1 : bits .and .u32 (a : Int) 1 = ((a % 2 : Nat) : Int) := by
    have := and_u32 a 1 ha (by decide)
    rw [Nat.and_one_is_mod] at this
    exact this
  rw [h1]
  unfold cstep
  rcases Nat.mod_two_eq_zero_or_one a with h | h
  · rw [h, if_neg (by decide)]
    have e0 : bits .and .u32 3988292384 (IntKind.u32.wrap (-((0 : Nat) : Int))) = ((0 : Nat) : Int) := by decide
    rw [e0]
    have := xor_u32 (a / 2) 0 (by omega) (by decide)
    rw [Nat.xor_zero] at this
    simpa using this
  · rw [h, if_pos rfl]
    have e0 : bits .and .u32 3988292384 (IntKind.u32.wrap (-((1 : Nat) : Int))) = ((3988292384 : Nat) : Int) := by decide
    rw [e0]
    have := xor_u32 (a / 2) 3988292384 (by omega) (by decide)
    simpa using this

set_option maxRecDepth 100000 in
set_option maxHeartbeats 2000000 in
theorem crc_any (w : World) (v : Value) (bs : List UInt8) (hv : Bytes w v bs) (hl : bs.length ≤ 1099511627776) :
    Calls Tryz.prog 75 #[v] w fun e w' => e = .returned (.int .u32 (crc bs : Nat)) ∧ w' = w := by
  obtain ⟨a, cap, rfl, hc, hm⟩ := hv.shape
  obtain ⟨i, hi, hz0, hz1, hz2⟩ := info_parts infoU8
  have HV := Lib.hid hv
  have Hi := Lib.hid hi
  have Hz1 := Lib.hid hz1
  clear hv hi hz0 hz1 hz2
  go_enter Tryz.func75, Tryz.ntmps75
  go_wp2_with fail
  go_loopg [3, 8] bs.length (fun k s3 s8 wr => ∃ j : Nat, j ≤ bs.length ∧ k + j = bs.length ∧ s8 = .int .i64 j ∧ s3 = .int .u32 (crcGo 4294967295 (bs.take j) : Nat) ∧ wr = w)
  case atStart => exact ⟨0, by omega, by omega, rfl, rfl, rfl⟩
  case round =>
    obtain ⟨j, hj, hk, rfl, rfl, rfl⟩ := hrel
    by_cases hlt : j < bs.length
    · have hx : crcGo 4294967295 (bs.take j) < 4294967296 := crcGo_lt (by decide) _
      have hnext := crcGo_take 4294967295 bs j hlt
      generalize hxe : crcGo 4294967295 (bs.take j) = x at *
      have hge : (bs.map M.u8)[j]? = some (.int .u8 bs[j].toNat) := by rw [List.getElem?_map, List.getElem?_eq_getElem hlt]; rfl
      obtain ⟨g, o, hix, hcell, -⟩ := index_reads 52 5 Tryz.underlying52 i Hi.out wr Hz1.out _ _ _ HV.out j _ hge
      have hb := u8_lt bs[j]
      have hxor := xor_u32 x bs[j].toNat hx hb
      have hb8 := bs[j].toNat_lt
      have hwb : IntKind.u32.wrap ((bs[j].toNat : Nat) : Int) = (bs[j].toNat : Nat) := wrap_u32 _ hb
      generalize hc : bs[j].toNat = c at *
      have hstart : x ^^^ c < 4294967296 := xor_lt hx hb
      go_wp2_with fail
      go_loopg [3, 16] 8 (fun k s3 s16 wr' => ∃ t : Nat, t ≤ 8 ∧ k + t = 8 ∧ s16 = .int .i64 t ∧ s3 = .int .u32 (cstepN t (x ^^^ c) : Nat) ∧ wr' = wr)
      case atStart => exact ⟨0, by omega, by omega, rfl, rfl, rfl⟩
      case round =>
        obtain ⟨t, ht, hkt, rfl, rfl, rfl⟩ := hrel
        by_cases ht8 : t < 8
        · have hy := cstepN_lt hstart t
          have hst := step_u32 _ hy
          have hnx : cstepN (t + 1) (x ^^^ c) = cstep (cstepN t (x ^^^ c)) := rfl
          rw [← hnx] at hst
          generalize cstepN t (x ^^^ c) = y at *
          go_wp2_with fail
          go_roundg (8 - (t + 1))
          case measure => omega
          case rel => exact ⟨t + 1, by omega, by omega, by simp, congrArg (Value.int .u32) hst, rfl⟩
        · have ht' : t = 8 := by omega
          subst ht'
          go_wp2_with fail
          go_roundg (bs.length - (j + 1))
          case measure => omega
          case rel => exact ⟨j + 1, by omega, by omega, by simp, by rw [hnext, crcAdd, hc], rfl⟩
    · have hjn : j = bs.length := by omega
      subst hjn
      rw [List.take_length]
      have hxor := xor_u32 4294967295 (crcGo 4294967295 bs) (by decide) (crcGo_lt (by decide) _)
      go_wp2_with fail
      go_ret
      exact ⟨congrArg (fun z => Ending.returned (.int .u32 z)) hxor, rfl⟩
end Go.Proofs.YtpnlcogbahjnoaaGreat.F
