/-
  DERIVED: THE SHELF's CONTRACTS AT THIS DUMP, IN PLAIN WORDS (tools/lay-plain.mjs out of 'TryzIter.lean', which tools/lay-shelf.mjs wrote): THE SAME DECLARATIONS UNDER THE SAME NAMES: 'import', 'namespace', 'open', 'def', 'theorem' AND NOTHING ELSE: no command of the shelf's: FOR A HAND-IN. Each laying: the table of numbers ('.._ren') and one theorem, a field a fact of the dump's own or the kernel's comparison; each contract: ONE APPLICATION.
-/
import Derived.Shelf.SlGeneric
import Derived.Shelf.SlIter.Nil
import Derived.Shelf.SortM.Plain
import Derived.Shelf.SortM.SortNone
import Derived.Ground.GgzProg
import Derived.Ground.SlgmProg
import Derived.Test.YtgpkbembdflnmaaGreatDoorProg
namespace Go.Proofs
open Go.Shelf
def Tryz.keys33_ren : Go.Shelf.Ren := ⟨fun | 7 => 33 | 10 => 47 | n => n, fun | 23 => 56 | 26 => 9 | 3 => 68 | 28 => 72 | 0 => 0 | 27 => 71 | 33 => 54 | 4 => 4 | n => n, fun | n => n⟩
theorem Tryz.keys33 : Go.Proofs.SlLaysZ.n7 Tryz.prog Tryz.keys33_ren := {
  mixed := by kernel_rfl
  f7 := ⟨Tryz.f33.name, by decide, Tryz.func33.trans (congrArg some (by kernel_rfl))⟩
  f10 := ⟨Tryz.f47.name, by decide, Tryz.func47.trans (congrArg some (by kernel_rfl))⟩
  t0 := Tryz.underlying0
  a0 := Tryz.isAgg0
  z0 := Tryz.sizeOf0
  v0 := Tryz.zeroValue0
  t4 := Tryz.underlying4
  a4 := Tryz.isAgg4
  z4 := Tryz.sizeOf4
  v4 := Tryz.zeroValue4
  t23 := Tryz.underlying56
  a23 := Tryz.isAgg56
  z23 := Tryz.sizeOf56
  v23 := Tryz.zeroValue56
  t26 := Tryz.underlying9
  a26 := Tryz.isAgg9
  z26 := Tryz.sizeOf9
  v26 := Tryz.zeroValue9
  t27 := Tryz.underlying71
  a27 := Tryz.isAgg71
  z27 := Tryz.sizeOf71
  v27 := Tryz.zeroValue71
  t28 := Tryz.underlying72
  a28 := Tryz.isAgg72
  z28 := Tryz.sizeOf72
  v28 := Tryz.zeroValue72
  t33 := Tryz.underlying54
  a33 := Tryz.isAgg54
  z33 := Tryz.sizeOf54
  v33 := Tryz.zeroValue54 }
def Tryz.sorted32_ren : Go.Shelf.Ren := ⟨fun | 6 => 32 | 8 => 45 | 9 => 46 | 11 => 63 | 13 => 65 | 12 => 64 | 23 => 70 | 24 => 87 | 14 => 78 | 15 => 79 | 16 => 80 | 17 => 81 | 18 => 82 | 19 => 83 | 20 => 84 | 21 => 85 | 22 => 86 | 25 => 106 | 26 => 107 | 27 => 108 | 28 => 109 | 29 => 110 | 30 => 111 | 31 => 128 | n => n, fun | 26 => 9 | 28 => 72 | 24 => 25 | 0 => 0 | 3 => 3 | 37 => 96 | 48 => 95 | 50 => 61 | 4 => 4 | 40 => 128 | 39 => 127 | 45 => 132 | 5 => 5 | 9 => 9 | 51 => 152 | 55 => 156 | 57 => 175 | 58 => 176 | 33 => 54 | n => n, fun | n => n⟩
theorem Tryz.sorted32 : Go.Proofs.SlLaysZ.n6 Tryz.prog Tryz.sorted32_ren := {
  mixed := by kernel_rfl
  f6 := ⟨Tryz.f32.name, by decide, Tryz.func32.trans (congrArg some (by kernel_rfl))⟩
  f8 := ⟨Tryz.f45.name, by decide, Tryz.func45.trans (congrArg some (by kernel_rfl))⟩
  f11 := ⟨Tryz.f63.name, by decide, Tryz.func63.trans (congrArg some (by kernel_rfl))⟩
  t0 := Tryz.underlying0
  a0 := Tryz.isAgg0
  z0 := Tryz.sizeOf0
  v0 := Tryz.zeroValue0
  t24 := Tryz.underlying25
  a24 := Tryz.isAgg25
  z24 := Tryz.sizeOf25
  v24 := Tryz.zeroValue25
  t26 := Tryz.underlying9
  a26 := Tryz.isAgg9
  z26 := Tryz.sizeOf9
  v26 := Tryz.zeroValue9
  t28 := Tryz.underlying72
  a28 := Tryz.isAgg72
  z28 := Tryz.sizeOf72
  v28 := Tryz.zeroValue72
  i26 := by kernel_rfl }
def Tryz.sort46_ren : Go.Shelf.Ren := ⟨fun | 6 => 46 | 8 => 65 | 9 => 64 | 19 => 70 | 20 => 87 | 21 => 78 | 22 => 79 | 23 => 80 | 24 => 81 | 25 => 82 | 26 => 83 | 27 => 84 | 28 => 85 | 29 => 86 | 36 => 106 | 31 => 107 | 32 => 108 | 37 => 109 | 38 => 110 | 39 => 111 | 41 => 128 | n => n, fun | 27 => 25 | 29 => 9 | 3 => 3 | 32 => 96 | 26 => 25 | 0 => 0 | 44 => 95 | 46 => 61 | 4 => 4 | 36 => 128 | 35 => 127 | 41 => 132 | 5 => 5 | 9 => 9 | 53 => 152 | 57 => 156 | 63 => 175 | 64 => 176 | n => n, fun | n => n⟩
theorem Tryz.sort46 : Go.Proofs.SlLaysM.n6 Tryz.prog Tryz.sort46_ren := {
  mixed := by kernel_rfl
  f6 := ⟨Tryz.f46.name, by decide, Tryz.func46.trans (congrArg some (by kernel_rfl))⟩
  f8 := Tryz.func65.trans (congrArg some (by kernel_rfl))
  f9 := ⟨Tryz.f64.name, by decide, Tryz.func64.trans (congrArg some (by kernel_rfl))⟩
  f19 := Tryz.func70.trans (congrArg some (by kernel_rfl))
  f20 := Tryz.func87.trans (congrArg some (by kernel_rfl))
  f21 := ⟨Tryz.f78.name, by decide, Tryz.func78.trans (congrArg some (by kernel_rfl))⟩
  f22 := ⟨Tryz.f79.name, by decide, Tryz.func79.trans (congrArg some (by kernel_rfl))⟩
  f23 := ⟨Tryz.f80.name, by decide, Tryz.func80.trans (congrArg some (by kernel_rfl))⟩
  f24 := ⟨Tryz.f81.name, by decide, Tryz.func81.trans (congrArg some (by kernel_rfl))⟩
  f25 := ⟨Tryz.f82.name, by decide, Tryz.func82.trans (congrArg some (by kernel_rfl))⟩
  f26 := ⟨Tryz.f83.name, by decide, Tryz.func83.trans (congrArg some (by kernel_rfl))⟩
  f27 := ⟨Tryz.f84.name, by decide, Tryz.func84.trans (congrArg some (by kernel_rfl))⟩
  f28 := ⟨Tryz.f85.name, by decide, Tryz.func85.trans (congrArg some (by kernel_rfl))⟩
  f29 := ⟨Tryz.f86.name, by decide, Tryz.func86.trans (congrArg some (by kernel_rfl))⟩
  f31 := Tryz.func107.trans (congrArg some (by kernel_rfl))
  f32 := Tryz.func108.trans (congrArg some (by kernel_rfl))
  f36 := ⟨Tryz.f106.name, by decide, Tryz.func106.trans (congrArg some (by kernel_rfl))⟩
  f37 := ⟨Tryz.f109.name, by decide, Tryz.func109.trans (congrArg some (by kernel_rfl))⟩
  f38 := ⟨Tryz.f110.name, by decide, Tryz.func110.trans (congrArg some (by kernel_rfl))⟩
  f39 := ⟨Tryz.f111.name, by decide, Tryz.func111.trans (congrArg some (by kernel_rfl))⟩
  f41 := ⟨Tryz.f128.name, by decide, Tryz.func128.trans (congrArg some (by kernel_rfl))⟩
  t0 := Tryz.underlying0
  a0 := Tryz.isAgg0
  z0 := Tryz.sizeOf0
  v0 := Tryz.zeroValue0
  t3 := Tryz.underlying3
  a3 := Tryz.isAgg3
  z3 := Tryz.sizeOf3
  v3 := Tryz.zeroValue3
  t4 := Tryz.underlying4
  a4 := Tryz.isAgg4
  z4 := Tryz.sizeOf4
  v4 := Tryz.zeroValue4
  t5 := Tryz.underlying5
  a5 := Tryz.isAgg5
  z5 := Tryz.sizeOf5
  v5 := Tryz.zeroValue5
  t9 := Tryz.underlying9
  a9 := Tryz.isAgg9
  z9 := Tryz.sizeOf9
  v9 := Tryz.zeroValue9
  t26 := Tryz.underlying25
  a26 := Tryz.isAgg25
  z26 := Tryz.sizeOf25
  v26 := Tryz.zeroValue25
  t27 := Tryz.underlying25
  a27 := Tryz.isAgg25
  z27 := Tryz.sizeOf25
  v27 := Tryz.zeroValue25
  t29 := Tryz.underlying9
  a29 := Tryz.isAgg9
  z29 := Tryz.sizeOf9
  v29 := Tryz.zeroValue9
  t32 := Tryz.underlying96
  a32 := Tryz.isAgg96
  z32 := Tryz.sizeOf96
  v32 := Tryz.zeroValue96
  t35 := Tryz.underlying127
  a35 := Tryz.isAgg127
  z35 := Tryz.sizeOf127
  v35 := Tryz.zeroValue127
  t36 := Tryz.underlying128
  a36 := Tryz.isAgg128
  z36 := Tryz.sizeOf128
  v36 := Tryz.zeroValue128
  t41 := Tryz.underlying132
  a41 := Tryz.isAgg132
  z41 := Tryz.sizeOf132
  v41 := Tryz.zeroValue132
  t44 := Tryz.underlying95
  a44 := Tryz.isAgg95
  z44 := Tryz.sizeOf95
  v44 := Tryz.zeroValue95
  t46 := Tryz.underlying61
  a46 := Tryz.isAgg61
  z46 := Tryz.sizeOf61
  v46 := Tryz.zeroValue61
  t53 := Tryz.underlying152
  a53 := Tryz.isAgg152
  z53 := Tryz.sizeOf152
  v53 := Tryz.zeroValue152
  t57 := Tryz.underlying156
  a57 := Tryz.isAgg156
  z57 := Tryz.sizeOf156
  v57 := Tryz.zeroValue156
  t63 := Tryz.underlying175
  a63 := Tryz.isAgg175
  z63 := Tryz.sizeOf175
  v63 := Tryz.zeroValue175
  t64 := Tryz.underlying176
  a64 := Tryz.isAgg176
  z64 := Tryz.sizeOf176
  v64 := Tryz.zeroValue176 }
open Go.RowKit Go.Maps Go.Sort in
theorem Tryz.sorts32 (m : Nat) : AnyZ.SortsIn Tryz.prog Tryz.sorted32_ren Fence.wide m :=
  ⟨fun blk off cap ss W hH hblk hsz => callsIn_wide.2 (AnyM.slices_Sort_string Tryz.sort46 blk off cap ss W hH hblk hsz),
   fun p cap W => callsIn_wide.2 (AnyM.slices_Sort_string_none Tryz.sort46 p cap W)⟩
open Go.RowKit Go.Maps Go.Sort in
theorem Tryz.maps_Keys_33 (mb : Option Nat) (W : World) : CallsIn Fence.wide 5 Tryz.prog 33 #[.map mb] W fun e w' => e = .returned (.func (.func 47) #[] #[.pointer (some ⟨W.heap.size, 0, none⟩)]) ∧ w' = W.alloc (.cells #[.map mb] 56) :=
  AnyZ.keys_in Tryz.keys33 Fence.wide 5 trivial rfl mb W
open Go.RowKit Go.Maps Go.Sort in
theorem Tryz.slices_Sorted_keys_32_33 {H : Type} (b nn : Nat) (D0 : DataW H) (R : Value → Option (DataW H × List MemPlace)) (w : World) (hown : w.ownsMap Tryz.prog 9 R b nn D0) (hmax : Maps.size D0 ≤ maxLen) (hbytes : Maps.size D0 * 16 ≤ 140737488355328) :
    CallsIn Fence.wide 5 Tryz.prog 32 #[.func (.func 47) #[] #[.pointer (some ⟨w.heap.size, 0, none⟩)]] (w.alloc (.cells #[.map (some b)] 56)) fun e w' => ∃ (v : Value) (ss : List (List UInt8)), e = .returned v ∧ ss.Perm (strKeys D0) ∧
      w'.ownsRow (w.alloc (.cells #[.map (some b)] 56)).heap.size 9 1 v ss.length ((ss.mergeSort (fun x y => decide (x ≤ y))).map encStr) ∧ (v = .slice none 0 0 ↔ ss = []) ∧ Below (w.alloc (.cells #[.map (some b)] 56)).heap.size (w.alloc (.cells #[.map (some b)] 56)) w' := by
  have hbl := hown.lt
  have hseq : SeqGives Fence.wide 2 Tryz.prog 47 #[.pointer (some ⟨w.heap.size, 0, none⟩)] encStr (fun ss => ss.Perm (strKeys D0)) (Maps.size D0) (w.alloc (.cells #[.map (some b)] 56)) :=
    AnyZ.keys_gives (ρ := Tryz.keys33_ren) { Tryz.keys33 with } Fence.wide _ trivial rfl (by omega) w.heap.size b nn D0 _ (by simp) (by simp) (by
      obtain ⟨es, clock, hb, Ft, hs, hD⟩ := hown
      exact ⟨es, clock, (Below.heap_alloc _ _ b hbl).trans hb, Ft, hs, hD⟩)
  exact AnyZ.sorted_in Tryz.sorted32 Fence.wide 5 trivial trivial trivial trivial rfl (by omega) (Tryz.sorts32 _) (enters_of Tryz.func46 (by kernel_rfl) rfl) 47 #[.pointer (some ⟨w.heap.size, 0, none⟩)] trivial (enters_of Tryz.func47 (by kernel_rfl) rfl) _ _ hmax hbytes _ hseq
open Go.RowKit Go.Maps Go.Sort in
theorem Tryz.slices_Sorted_keys_nil_32_33 (w : World) :
    CallsIn Fence.wide 5 Tryz.prog 32 #[.func (.func 47) #[] #[.pointer (some ⟨w.heap.size, 0, none⟩)]] (w.alloc (.cells #[.map none] 56)) fun e w' => ∃ (v : Value) (ss : List (List UInt8)), e = .returned v ∧ ss = [] ∧
      w'.ownsRow (w.alloc (.cells #[.map none] 56)).heap.size 9 1 v ss.length ((ss.mergeSort (fun x y => decide (x ≤ y))).map encStr) ∧ (v = .slice none 0 0 ↔ ss = []) ∧ Below (w.alloc (.cells #[.map none] 56)).heap.size (w.alloc (.cells #[.map none] 56)) w' := by
  have hseq : SeqGives Fence.wide 2 Tryz.prog 47 #[.pointer (some ⟨w.heap.size, 0, none⟩)] encStr (fun ss : List (List UInt8) => ss = []) 0 (w.alloc (.cells #[.map none] 56)) :=
    AnyZ.keys_gives_nil (ρ := Tryz.keys33_ren) { Tryz.keys33 with } Fence.wide _ trivial rfl w.heap.size _ (by simp) (by simp)
  exact AnyZ.sorted_in Tryz.sorted32 Fence.wide 5 trivial trivial trivial trivial rfl (by omega) (Tryz.sorts32 _) (enters_of Tryz.func46 (by kernel_rfl) rfl) 47 #[.pointer (some ⟨w.heap.size, 0, none⟩)] trivial (enters_of Tryz.func47 (by kernel_rfl) rfl) _ 0 (Nat.zero_le _) (by omega) _ hseq
end Go.Proofs
