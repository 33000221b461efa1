/- The reference's Crc, back, four: what they compute. Conditions stand at each theorem. -/
import Derived.Test.YtpnlcogbahjnoaaGreatUnframe
namespace Go.Proofs.YtpnlcogbahjnoaaGreat.F
open Go.RowKit Go.Proofs.YtpnlcogbahjnoaaGreat.M
set_option linter.unusedVariables false

theorem and1_u32 (a : Nat) (ha : a < 4294967296) : bits .and .u32 (a : Int) 1 = ((a % 2 : Nat) : Int) := by
  have := and_u32 a 1 ha (by decide)
  rw [Nat.and_one_is_mod] at this
  exact this
theorem odd_u32 (a : Nat) (ha : a < 4294967296) : bits .xor .u32 ((a : Int) / 2) 3988292384 = ((a / 2 ^^^ 3988292384 : Nat) : Int) := by
  have := xor_u32 (a / 2) 3988292384 (by omega) (by decide)
  simpa using this

set_option maxRecDepth 100000 in
set_option maxHeartbeats 2000000 in
theorem qcrc_any (w : World) (v : Value) (bs : List UInt8) (hv : Bytes w v bs) (hl : bs.length ≤ 1099511627776) :
    Calls Tryz.prog 77 #[v] w fun e w' => e = .returned (.int .u32 (crc bs : Nat)) ∧ w' = w := by
  obtain ⟨a, cap, rfl, hc, hm⟩ := hv.shape
  obtain ⟨i, hi, hz0, hz1, hz2⟩ := info_parts infoU8
  have HV := Lib.hid hv
  have Hi := Lib.hid hi
  have Hz1 := Lib.hid hz1
  clear hv hi hz0 hz1 hz2
  go_enter Tryz.func77, Tryz.ntmps77
  go_wp2_with fail
  go_loopg [3, 4] bs.length (fun k s3 s8 wr => ∃ j : Nat, j ≤ bs.length ∧ k + j = bs.length ∧ s8 = .int .i64 j ∧ s3 = .int .u32 (crcGo 4294967295 (bs.take j) : Nat) ∧ wr = w)
  case atStart => exact ⟨0, by omega, by omega, rfl, rfl, rfl⟩
  case round =>
    obtain ⟨j, hj, hk, rfl, rfl, rfl⟩ := hrel
    by_cases hlt : j < bs.length
    · have hx : crcGo 4294967295 (bs.take j) < 4294967296 := crcGo_lt (by decide) _
      have hnext := crcGo_take 4294967295 bs j hlt
      generalize hxe : crcGo 4294967295 (bs.take j) = x at *
      have hge : (bs.map M.u8)[j]? = some (.int .u8 bs[j].toNat) := by rw [List.getElem?_map, List.getElem?_eq_getElem hlt]; rfl
      obtain ⟨g, o, hix, hcell, -⟩ := index_reads 52 5 Tryz.underlying52 i Hi.out wr Hz1.out _ _ _ HV.out j _ hge
      have hb := u8_lt bs[j]
      have hxor := xor_u32 x bs[j].toNat hx hb
      have hb8 := bs[j].toNat_lt
      have hwb : IntKind.u32.wrap ((bs[j].toNat : Nat) : Int) = (bs[j].toNat : Nat) := wrap_u32 _ hb
      generalize hc : bs[j].toNat = c at *
      have hstart : x ^^^ c < 4294967296 := xor_lt hx hb
      go_wp2_with fail
      go_loopg [3, 5] 8 (fun k s3 s16 wr' => ∃ t : Nat, t ≤ 8 ∧ k + t = 8 ∧ s16 = .int .i64 t ∧ s3 = .int .u32 (cstepN t (x ^^^ c) : Nat) ∧ wr' = wr)
      case atStart => exact ⟨0, by omega, by omega, rfl, rfl, rfl⟩
      case round =>
        obtain ⟨t, ht, hkt, rfl, rfl, rfl⟩ := hrel
        by_cases ht8 : t < 8
        · have hy := cstepN_lt hstart t
          have hnx : cstepN (t + 1) (x ^^^ c) = cstep (cstepN t (x ^^^ c)) := rfl
          generalize cstepN t (x ^^^ c) = y at *
          have hlow := and1_u32 y hy
          by_cases hodd : y % 2 = 1
          · have hst := odd_u32 y hy
            rw [cstep, if_pos hodd] at hnx
            rw [hodd] at hlow
            go_wp2_with fail
            go_roundg (8 - (t + 1))
            case measure => omega
            case rel => exact ⟨t + 1, by omega, by omega, by simp, by rw [hnx], rfl⟩
          · have hev : y % 2 = 0 := by omega
            rw [cstep, if_neg hodd] at hnx
            rw [hev] at hlow
            go_wp2_with fail
            go_roundg (8 - (t + 1))
            case measure => omega
            case rel => exact ⟨t + 1, by omega, by omega, by simp, by rw [hnx]; simp, rfl⟩
        · have ht' : t = 8 := by omega
          subst ht'
          go_wp2_with fail
          go_roundg (bs.length - (j + 1))
          case measure => omega
          case rel => exact ⟨j + 1, by omega, by omega, by simp, by rw [hnext, crcAdd, hc], rfl⟩
    · have hjn : j = bs.length := by omega
      subst hjn
      rw [List.take_length]
      have hxor := xor_u32 4294967295 (crcGo 4294967295 bs) (by decide) (crcGo_lt (by decide) _)
      go_wp2_with fail
      go_ret
      exact ⟨congrArg (fun z => Ending.returned (.int .u32 z)) hxor, rfl⟩

theorem Owns.lit (w : World) (xs : Array Value) (e : TypeId) (h : xs.size ≤ maxLen) : Owns (w.alloc (.cells xs e)) w.heap.size e 1 (.slice (some ⟨w.heap.size, 0, none⟩) xs.size xs.size) xs.size xs.toList :=
  ⟨by simp, .inr ⟨w.heap.size, 0, xs.size, xs, rfl, Nat.le_refl _, heap_alloc_new w _, Nat.le_refl _, h, by simp, fun j u hj => by simpa using hj⟩⟩
theorem back_eq (d c : Nat) : d * 2 ^ 16 + c * 256 = (d * 256 + c) * 2 ^ 8 := by
  simp only [Nat.reducePow]
  omega
theorem or_u32 (a b k : Nat) (hb : b < 2 ^ k) (hm : a * 2 ^ k + b < 4294967296) : bits .or .u32 ((a * 2 ^ k : Nat) : Int) (b : Int) = ((a * 2 ^ k + b : Nat) : Int) := by
  show IntKind.u32.wrap (((BitVec.ofInt 32 ((a * 2 ^ k : Nat) : Int) ||| BitVec.ofInt 32 (b : Int)).toNat : Nat) : Int) = _
  have e : (BitVec.ofInt 32 ((a * 2 ^ k : Nat) : Int) ||| BitVec.ofInt 32 (b : Int)).toNat = a * 2 ^ k + b := by
    rw [BitVec.toNat_or, BitVec.ofInt_natCast, BitVec.ofInt_natCast, BitVec.toNat_ofNat, BitVec.toNat_ofNat, Nat.mod_eq_of_lt (by omega), Nat.mod_eq_of_lt (by omega)]
    rw [Nat.mul_comm]
    exact (Nat.two_pow_add_eq_or_of_lt hb a).symm
  rw [e]
  exact wrap_u32 _ hm

set_option maxRecDepth 100000 in
set_option maxHeartbeats 1000000 in
theorem qfour_any (w : World) (x : Nat) (hx : x < 4294967296) :
    Calls Tryz.prog 76 #[.int .u32 x] w fun e w' => ∃ v', e = .returned v' ∧ Owns w' w.heap.size 5 1 v' 4 ((be4 x).map M.u8) ∧ Below w.heap.size w w' := by
  go_enter Tryz.func76, Tryz.ntmps76
  go_wp2_with fail
  go_ret
  have e0 : ((x : Int) / 16777216) = ((UInt8.ofNat (x / 16777216)).toNat : Nat) := by rw [UInt8.toNat_ofNat']; omega
  have e1 : ((x : Int) / 65536 % 256) = ((UInt8.ofNat (x / 65536)).toNat : Nat) := by rw [UInt8.toNat_ofNat']; omega
  have e2 : ((x : Int) / 256 % 256) = ((UInt8.ofNat (x / 256)).toNat : Nat) := by rw [UInt8.toNat_ofNat']; omega
  have e3 : ((x : Int) % 256) = ((UInt8.ofNat x).toNat : Nat) := by rw [UInt8.toNat_ofNat']; omega
  rw [e0, e1, e2, e3]
  exact ⟨_, rfl, Owns.lit w _ 5 (by show 4 ≤ maxLen; decide), (Below.refl _ _).alloc (Nat.le_refl _) _⟩

set_option maxRecDepth 100000 in
set_option maxHeartbeats 1000000 in
theorem qback_any (w : World) (v : Value) (b0 b1 b2 b3 : UInt8) (hv : Bytes w v [b0, b1, b2, b3]) :
    Calls Tryz.prog 87 #[v] w fun e w' => e = .returned (.int .u32 (beNum [b0, b1, b2, b3] : Nat)) ∧ ∃ n, w' = w.drewN n := by
  obtain ⟨a, cap, rfl, hc, hm⟩ := hv.shape
  obtain ⟨g0, o0, hx0, hc0, -⟩ := bytes_ix hv 0 (by simp)
  obtain ⟨g1, o1, hx1, hc1, -⟩ := bytes_ix hv 1 (by simp)
  obtain ⟨g2, o2, hx2, hc2, -⟩ := bytes_ix hv 2 (by simp)
  obtain ⟨g3, o3, hx3, hc3, -⟩ := bytes_ix hv 3 (by simp)
  have hx0' : ∀ (k : IntKind) (w' : World), (Instr.indexAt 52 (.slice a 4 cap) (.int k 0)).run Tryz.prog w' = .ok (.pointer (some ⟨g0, o0, none⟩)) w' := hx0
  have hx1' : ∀ (k : IntKind) (w' : World), (Instr.indexAt 52 (.slice a 4 cap) (.int k 1)).run Tryz.prog w' = .ok (.pointer (some ⟨g1, o1, none⟩)) w' := hx1
  have hx2' : ∀ (k : IntKind) (w' : World), (Instr.indexAt 52 (.slice a 4 cap) (.int k 2)).run Tryz.prog w' = .ok (.pointer (some ⟨g2, o2, none⟩)) w' := hx2
  have hx3' : ∀ (k : IntKind) (w' : World), (Instr.indexAt 52 (.slice a 4 cap) (.int k 3)).run Tryz.prog w' = .ok (.pointer (some ⟨g3, o3, none⟩)) w' := hx3
  clear hx0 hx1 hx2 hx3
  simp at hc0 hc1 hc2 hc3
  clear hv
  go_enter Tryz.func87, Tryz.ntmps87
  go_upto_region 1 with fail
  go_quiet (fail)
  go_wp2_with fail
  go_ret
  have l0 := b0.toNat_lt
  have l1 := b1.toNat_lt
  have l2 := b2.toNat_lt
  have l3 := b3.toNat_lt
  have e : beNum [b0, b1, b2, b3] = ((b0.toNat * 256 + b1.toNat) * 256 + b2.toNat) * 256 + b3.toNat := by simp [beNum]
  rw [e]
  generalize b0.toNat = c0 at *
  generalize b1.toNat = c1 at *
  generalize b2.toNat = c2 at *
  generalize b3.toNat = c3 at *
  have r1 := or_u32 c0 (c1 * 65536) 24 (by omega) (by omega)
  have r2 := or_u32 (c0 * 256 + c1) (c2 * 256) 16 (by omega) (by omega)
  have r3 := or_u32 ((c0 * 256 + c1) * 256 + c2) c3 8 (by omega) (by omega)
  have g0 : ((c0 : Int) % 4294967296 * 16777216 % 4294967296) = ((c0 * 2 ^ 24 : Nat) : Int) := by omega
  have g1 : ((c1 : Int) % 4294967296 * 65536 % 4294967296) = ((c1 * 65536 : Nat) : Int) := by omega
  have g2 : ((c2 : Int) % 4294967296 * 256 % 4294967296) = ((c2 * 256 : Nat) : Int) := by omega
  have g3 : ((c3 : Int) % 4294967296) = ((c3 : Nat) : Int) := by omega
  have h1 : c0 * 2 ^ 24 + c1 * 65536 = (c0 * 256 + c1) * 2 ^ 16 := by simp only [Nat.reducePow]; omega
  have h2 : (c0 * 256 + c1) * 2 ^ 16 + c2 * 256 = ((c0 * 256 + c1) * 256 + c2) * 2 ^ 8 := back_eq _ _
  rw [g0, g1, g2, g3, r1, h1, r2, h2, r3]
  exact ⟨rfl, _, rfl⟩
end Go.Proofs.YtpnlcogbahjnoaaGreat.F
