/- The library's contracts on maps.Keys and slices.Sorted, laid at this program by the kit's tools (lay-iter, lay-plain). -/
import Derived.Shelf.SlIter.Nil
import Derived.Shelf.SortM.Plain
import Derived.Shelf.SortM.SortNone
import Derived.Ground.GgzProg
import Derived.Ground.SlgmProg
import Derived.Test.YtpnlcogbahjnoaaGreatRows
namespace Go.Proofs.YtpnlcogbahjnoaaGreat.K
open Go.RowKit Go.Maps Go.Sort Go.Shelf
set_option linter.unusedVariables false
def Tryz.keys65_ren : Go.Shelf.Ren := ⟨fun | 7 => 65 | 10 => 80 | n => n, fun | 23 => 53 | 26 => 9 | 3 => 74 | 28 => 101 | 0 => 0 | 27 => 100 | 33 => 83 | 4 => 4 | n => n, fun | n => n⟩
theorem Tryz.keys65 : Go.Proofs.SlLaysZ.n7 Tryz.prog Tryz.keys65_ren := {
  mixed := by kernel_rfl
  f7 := ⟨Tryz.f65.name, by decide, Tryz.func65.trans (congrArg some (by kernel_rfl))⟩
  f10 := ⟨Tryz.f80.name, by decide, Tryz.func80.trans (congrArg some (by kernel_rfl))⟩
  t0 := Tryz.underlying0
  a0 := Tryz.isAgg0
  z0 := Tryz.sizeOf0
  v0 := Tryz.zeroValue0
  t4 := Tryz.underlying4
  a4 := Tryz.isAgg4
  z4 := Tryz.sizeOf4
  v4 := Tryz.zeroValue4
  t23 := Tryz.underlying53
  a23 := Tryz.isAgg53
  z23 := Tryz.sizeOf53
  v23 := Tryz.zeroValue53
  t26 := Tryz.underlying9
  a26 := Tryz.isAgg9
  z26 := Tryz.sizeOf9
  v26 := Tryz.zeroValue9
  t27 := Tryz.underlying100
  a27 := Tryz.isAgg100
  z27 := Tryz.sizeOf100
  v27 := Tryz.zeroValue100
  t28 := Tryz.underlying101
  a28 := Tryz.isAgg101
  z28 := Tryz.sizeOf101
  v28 := Tryz.zeroValue101
  t33 := Tryz.underlying83
  a33 := Tryz.isAgg83
  z33 := Tryz.sizeOf83
  v33 := Tryz.zeroValue83 }
def Tryz.sorted64_ren : Go.Shelf.Ren := ⟨fun | 6 => 64 | 8 => 78 | 9 => 79 | 11 => 91 | 13 => 93 | 12 => 92 | 23 => 111 | 24 => 112 | 14 => 102 | 15 => 103 | 16 => 104 | 17 => 105 | 18 => 106 | 19 => 107 | 20 => 108 | 21 => 109 | 22 => 110 | 25 => 117 | 26 => 118 | 27 => 119 | 28 => 120 | 29 => 121 | 30 => 122 | 31 => 123 | n => n, fun | 26 => 9 | 28 => 101 | 24 => 71 | 0 => 0 | 3 => 3 | 37 => 113 | 48 => 117 | 50 => 116 | 4 => 4 | 40 => 135 | 39 => 134 | 45 => 140 | 5 => 5 | 9 => 9 | 51 => 146 | 55 => 150 | 57 => 152 | 58 => 153 | 33 => 83 | n => n, fun | n => n⟩
theorem Tryz.sorted64 : Go.Proofs.SlLaysZ.n6 Tryz.prog Tryz.sorted64_ren := {
  mixed := by kernel_rfl
  f6 := ⟨Tryz.f64.name, by decide, Tryz.func64.trans (congrArg some (by kernel_rfl))⟩
  f8 := ⟨Tryz.f78.name, by decide, Tryz.func78.trans (congrArg some (by kernel_rfl))⟩
  f11 := ⟨Tryz.f91.name, by decide, Tryz.func91.trans (congrArg some (by kernel_rfl))⟩
  t0 := Tryz.underlying0
  a0 := Tryz.isAgg0
  z0 := Tryz.sizeOf0
  v0 := Tryz.zeroValue0
  t24 := Tryz.underlying71
  a24 := Tryz.isAgg71
  z24 := Tryz.sizeOf71
  v24 := Tryz.zeroValue71
  t26 := Tryz.underlying9
  a26 := Tryz.isAgg9
  z26 := Tryz.sizeOf9
  v26 := Tryz.zeroValue9
  t28 := Tryz.underlying101
  a28 := Tryz.isAgg101
  z28 := Tryz.sizeOf101
  v28 := Tryz.zeroValue101
  i26 := by kernel_rfl }
def Tryz.sort79_ren : Go.Shelf.Ren := ⟨fun | 6 => 79 | 8 => 93 | 9 => 92 | 19 => 111 | 20 => 112 | 21 => 102 | 22 => 103 | 23 => 104 | 24 => 105 | 25 => 106 | 26 => 107 | 27 => 108 | 28 => 109 | 29 => 110 | 36 => 117 | 31 => 118 | 32 => 119 | 37 => 120 | 38 => 121 | 39 => 122 | 41 => 123 | n => n, fun | 27 => 71 | 29 => 9 | 3 => 3 | 32 => 113 | 26 => 71 | 0 => 0 | 44 => 117 | 46 => 116 | 4 => 4 | 36 => 135 | 35 => 134 | 41 => 140 | 5 => 5 | 9 => 9 | 53 => 146 | 57 => 150 | 63 => 152 | 64 => 153 | n => n, fun | n => n⟩
theorem Tryz.sort79 : Go.Proofs.SlLaysM.n6 Tryz.prog Tryz.sort79_ren := {
  mixed := by kernel_rfl
  f6 := ⟨Tryz.f79.name, by decide, Tryz.func79.trans (congrArg some (by kernel_rfl))⟩
  f8 := Tryz.func93.trans (congrArg some (by kernel_rfl))
  f9 := ⟨Tryz.f92.name, by decide, Tryz.func92.trans (congrArg some (by kernel_rfl))⟩
  f19 := Tryz.func111.trans (congrArg some (by kernel_rfl))
  f20 := Tryz.func112.trans (congrArg some (by kernel_rfl))
  f21 := ⟨Tryz.f102.name, by decide, Tryz.func102.trans (congrArg some (by kernel_rfl))⟩
  f22 := ⟨Tryz.f103.name, by decide, Tryz.func103.trans (congrArg some (by kernel_rfl))⟩
  f23 := ⟨Tryz.f104.name, by decide, Tryz.func104.trans (congrArg some (by kernel_rfl))⟩
  f24 := ⟨Tryz.f105.name, by decide, Tryz.func105.trans (congrArg some (by kernel_rfl))⟩
  f25 := ⟨Tryz.f106.name, by decide, Tryz.func106.trans (congrArg some (by kernel_rfl))⟩
  f26 := ⟨Tryz.f107.name, by decide, Tryz.func107.trans (congrArg some (by kernel_rfl))⟩
  f27 := ⟨Tryz.f108.name, by decide, Tryz.func108.trans (congrArg some (by kernel_rfl))⟩
  f28 := ⟨Tryz.f109.name, by decide, Tryz.func109.trans (congrArg some (by kernel_rfl))⟩
  f29 := ⟨Tryz.f110.name, by decide, Tryz.func110.trans (congrArg some (by kernel_rfl))⟩
  f31 := Tryz.func118.trans (congrArg some (by kernel_rfl))
  f32 := Tryz.func119.trans (congrArg some (by kernel_rfl))
  f36 := ⟨Tryz.f117.name, by decide, Tryz.func117.trans (congrArg some (by kernel_rfl))⟩
  f37 := ⟨Tryz.f120.name, by decide, Tryz.func120.trans (congrArg some (by kernel_rfl))⟩
  f38 := ⟨Tryz.f121.name, by decide, Tryz.func121.trans (congrArg some (by kernel_rfl))⟩
  f39 := ⟨Tryz.f122.name, by decide, Tryz.func122.trans (congrArg some (by kernel_rfl))⟩
  f41 := ⟨Tryz.f123.name, by decide, Tryz.func123.trans (congrArg some (by kernel_rfl))⟩
  t0 := Tryz.underlying0
  a0 := Tryz.isAgg0
  z0 := Tryz.sizeOf0
  v0 := Tryz.zeroValue0
  t3 := Tryz.underlying3
  a3 := Tryz.isAgg3
  z3 := Tryz.sizeOf3
  v3 := Tryz.zeroValue3
  t4 := Tryz.underlying4
  a4 := Tryz.isAgg4
  z4 := Tryz.sizeOf4
  v4 := Tryz.zeroValue4
  t5 := Tryz.underlying5
  a5 := Tryz.isAgg5
  z5 := Tryz.sizeOf5
  v5 := Tryz.zeroValue5
  t9 := Tryz.underlying9
  a9 := Tryz.isAgg9
  z9 := Tryz.sizeOf9
  v9 := Tryz.zeroValue9
  t26 := Tryz.underlying71
  a26 := Tryz.isAgg71
  z26 := Tryz.sizeOf71
  v26 := Tryz.zeroValue71
  t27 := Tryz.underlying71
  a27 := Tryz.isAgg71
  z27 := Tryz.sizeOf71
  v27 := Tryz.zeroValue71
  t29 := Tryz.underlying9
  a29 := Tryz.isAgg9
  z29 := Tryz.sizeOf9
  v29 := Tryz.zeroValue9
  t32 := Tryz.underlying113
  a32 := Tryz.isAgg113
  z32 := Tryz.sizeOf113
  v32 := Tryz.zeroValue113
  t35 := Tryz.underlying134
  a35 := Tryz.isAgg134
  z35 := Tryz.sizeOf134
  v35 := Tryz.zeroValue134
  t36 := Tryz.underlying135
  a36 := Tryz.isAgg135
  z36 := Tryz.sizeOf135
  v36 := Tryz.zeroValue135
  t41 := Tryz.underlying140
  a41 := Tryz.isAgg140
  z41 := Tryz.sizeOf140
  v41 := Tryz.zeroValue140
  t44 := Tryz.underlying117
  a44 := Tryz.isAgg117
  z44 := Tryz.sizeOf117
  v44 := Tryz.zeroValue117
  t46 := Tryz.underlying116
  a46 := Tryz.isAgg116
  z46 := Tryz.sizeOf116
  v46 := Tryz.zeroValue116
  t53 := Tryz.underlying146
  a53 := Tryz.isAgg146
  z53 := Tryz.sizeOf146
  v53 := Tryz.zeroValue146
  t57 := Tryz.underlying150
  a57 := Tryz.isAgg150
  z57 := Tryz.sizeOf150
  v57 := Tryz.zeroValue150
  t63 := Tryz.underlying152
  a63 := Tryz.isAgg152
  z63 := Tryz.sizeOf152
  v63 := Tryz.zeroValue152
  t64 := Tryz.underlying153
  a64 := Tryz.isAgg153
  z64 := Tryz.sizeOf153
  v64 := Tryz.zeroValue153 }
theorem Tryz.sorts64 (m : Nat) : AnyZ.SortsIn Tryz.prog Tryz.sorted64_ren Fence.wide m :=
  ⟨fun blk off cap ss W hH hblk hsz => callsIn_wide.2 (AnyM.slices_Sort_string Tryz.sort79 blk off cap ss W hH hblk hsz),
   fun p cap W => callsIn_wide.2 (AnyM.slices_Sort_string_none Tryz.sort79 p cap W)⟩

theorem Tryz.maps_Keys_65 (mb : Option Nat) (W : World) : CallsIn Fence.wide 5 Tryz.prog 65 #[.map mb] W fun e w' => e = .returned (.func (.func 80) #[] #[.pointer (some ⟨W.heap.size, 0, none⟩)]) ∧ w' = W.alloc (.cells #[.map mb] 53) :=
  AnyZ.keys_in Tryz.keys65 Fence.wide 5 trivial rfl mb W

set_option maxHeartbeats 1000000 in
theorem Tryz.slices_Sorted_keys_64_65 {H : Type} (b nn : Nat) (D0 : DataW H) (R : Value → Option (DataW H × List MemPlace)) (w : World) (hown : w.ownsMap Tryz.prog 9 R b nn D0) (hmax : Maps.size D0 ≤ maxLen) (hbytes : Maps.size D0 * 16 ≤ 140737488355328) :
    CallsIn Fence.wide 5 Tryz.prog 64 #[.func (.func 80) #[] #[.pointer (some ⟨w.heap.size, 0, none⟩)]] (w.alloc (.cells #[.map (some b)] 53)) fun e w' => ∃ (v : Value) (ss : List (List UInt8)), e = .returned v ∧ ss.Perm (strKeys D0) ∧
      w'.ownsRow (w.alloc (.cells #[.map (some b)] 53)).heap.size 9 1 v ss.length ((ss.mergeSort (fun x y => decide (x ≤ y))).map encStr) ∧ (v = .slice none 0 0 ↔ ss = []) ∧ Below (w.alloc (.cells #[.map (some b)] 53)).heap.size (w.alloc (.cells #[.map (some b)] 53)) w' := by
  have hbl := hown.lt
  have hseq : SeqGives Fence.wide 2 Tryz.prog 80 #[.pointer (some ⟨w.heap.size, 0, none⟩)] encStr (fun ss => ss.Perm (strKeys D0)) (Maps.size D0) (w.alloc (.cells #[.map (some b)] 53)) :=
    AnyZ.keys_gives (ρ := Tryz.keys65_ren) { Tryz.keys65 with } Fence.wide _ trivial rfl (by omega) w.heap.size b nn D0 _ (by simp) (by simp) (by
      obtain ⟨es, clock, hb, Ft, hs, hD⟩ := hown
      exact ⟨es, clock, (Below.heap_alloc _ _ b hbl).trans hb, Ft, hs, hD⟩)
  exact AnyZ.sorted_in Tryz.sorted64 Fence.wide 5 trivial trivial trivial trivial rfl (by omega) (Tryz.sorts64 _) (enters_of Tryz.func79 (by kernel_rfl) rfl) 80 #[.pointer (some ⟨w.heap.size, 0, none⟩)] trivial (enters_of Tryz.func80 (by kernel_rfl) rfl) _ _ hmax hbytes _ hseq

set_option maxHeartbeats 1000000 in
theorem Tryz.slices_Sorted_keys_nil_64_65 (w : World) :
    CallsIn Fence.wide 5 Tryz.prog 64 #[.func (.func 80) #[] #[.pointer (some ⟨w.heap.size, 0, none⟩)]] (w.alloc (.cells #[.map none] 53)) fun e w' => ∃ (v : Value) (ss : List (List UInt8)), e = .returned v ∧ ss = [] ∧
      w'.ownsRow (w.alloc (.cells #[.map none] 53)).heap.size 9 1 v ss.length ((ss.mergeSort (fun x y => decide (x ≤ y))).map encStr) ∧ (v = .slice none 0 0 ↔ ss = []) ∧ Below (w.alloc (.cells #[.map none] 53)).heap.size (w.alloc (.cells #[.map none] 53)) w' := by
  have hseq : SeqGives Fence.wide 2 Tryz.prog 80 #[.pointer (some ⟨w.heap.size, 0, none⟩)] encStr (fun ss : List (List UInt8) => ss = []) 0 (w.alloc (.cells #[.map none] 53)) :=
    AnyZ.keys_gives_nil (ρ := Tryz.keys65_ren) { Tryz.keys65 with } Fence.wide _ trivial rfl w.heap.size _ (by simp) (by simp)
  exact AnyZ.sorted_in Tryz.sorted64 Fence.wide 5 trivial trivial trivial trivial rfl (by omega) (Tryz.sorts64 _) (enters_of Tryz.func79 (by kernel_rfl) rfl) 80 #[.pointer (some ⟨w.heap.size, 0, none⟩)] trivial (enters_of Tryz.func80 (by kernel_rfl) rfl) _ 0 (Nat.zero_le _) (by omega) _ hseq


end Go.Proofs.YtpnlcogbahjnoaaGreat.K
