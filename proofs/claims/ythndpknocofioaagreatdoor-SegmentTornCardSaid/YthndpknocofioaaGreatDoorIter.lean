/-
  DERIVED: THE SHELF's CONTRACTS AT THIS DUMP, IN PLAIN WORDS (tools/lay-plain.mjs out of 'YthndpknocofioaaGreatDoorIterS.lean', which tools/lay-shelf.mjs wrote): THE SAME DECLARATIONS UNDER THE SAME NAMES: 'import', 'namespace', 'open', 'def', 'theorem' AND NOTHING ELSE: no command of the shelf's: FOR A HAND-IN. Each laying: the table of numbers ('.._ren') and one theorem, a field a fact of the dump's own or the kernel's comparison; each contract: ONE APPLICATION.
-/
import Derived.Shelf.SlIter.Nil
import Derived.Shelf.SortM.Plain
import Derived.Shelf.SortM.SortNone
import Derived.Ground.GgzProg
import Derived.Ground.SlgmProg
import Derived.Test.YthndpknocofioaaGreatDoorProg
namespace Go.Proofs
open Go.Shelf
def Tryz.keys85_ren : Go.Shelf.Ren := ⟨fun | 7 => 85 | 10 => 123 | n => n, fun | 23 => 88 | 26 => 9 | 3 => 98 | 28 => 125 | 0 => 0 | 27 => 124 | 33 => 121 | 4 => 4 | n => n, fun | n => n⟩
theorem Tryz.keys85 : Go.Proofs.SlLaysZ.n7 Tryz.prog Tryz.keys85_ren := {
  mixed := by kernel_rfl
  f7 := ⟨Tryz.f85.name, by decide, Tryz.func85.trans (congrArg some (by kernel_rfl))⟩
  f10 := ⟨Tryz.f123.name, by decide, Tryz.func123.trans (congrArg some (by kernel_rfl))⟩
  t0 := Tryz.underlying0
  a0 := Tryz.isAgg0
  z0 := Tryz.sizeOf0
  v0 := Tryz.zeroValue0
  t4 := Tryz.underlying4
  a4 := Tryz.isAgg4
  z4 := Tryz.sizeOf4
  v4 := Tryz.zeroValue4
  t23 := Tryz.underlying88
  a23 := Tryz.isAgg88
  z23 := Tryz.sizeOf88
  v23 := Tryz.zeroValue88
  t26 := Tryz.underlying9
  a26 := Tryz.isAgg9
  z26 := Tryz.sizeOf9
  v26 := Tryz.zeroValue9
  t27 := Tryz.underlying124
  a27 := Tryz.isAgg124
  z27 := Tryz.sizeOf124
  v27 := Tryz.zeroValue124
  t28 := Tryz.underlying125
  a28 := Tryz.isAgg125
  z28 := Tryz.sizeOf125
  v28 := Tryz.zeroValue125
  t33 := Tryz.underlying121
  a33 := Tryz.isAgg121
  z33 := Tryz.sizeOf121
  v33 := Tryz.zeroValue121 }
def Tryz.sorted84_ren : Go.Shelf.Ren := ⟨fun | 6 => 84 | 8 => 121 | 9 => 122 | 11 => 146 | 13 => 125 | 12 => 147 | 23 => 157 | 24 => 158 | 14 => 170 | 15 => 171 | 16 => 172 | 17 => 173 | 18 => 174 | 19 => 175 | 20 => 176 | 21 => 177 | 22 => 178 | 25 => 195 | 26 => 180 | 27 => 181 | 28 => 196 | 29 => 197 | 30 => 198 | 31 => 204 | n => n, fun | 26 => 9 | 28 => 125 | 24 => 73 | 0 => 0 | 3 => 3 | 37 => 147 | 48 => 167 | 50 => 48 | 4 => 4 | 40 => 181 | 39 => 180 | 45 => 23 | 5 => 5 | 9 => 9 | 51 => 206 | 55 => 209 | 57 => 227 | 58 => 228 | 33 => 121 | n => n, fun | n => n⟩
theorem Tryz.sorted84 : Go.Proofs.SlLaysZ.n6 Tryz.prog Tryz.sorted84_ren := {
  mixed := by kernel_rfl
  f6 := ⟨Tryz.f84.name, by decide, Tryz.func84.trans (congrArg some (by kernel_rfl))⟩
  f8 := ⟨Tryz.f121.name, by decide, Tryz.func121.trans (congrArg some (by kernel_rfl))⟩
  f11 := ⟨Tryz.f146.name, by decide, Tryz.func146.trans (congrArg some (by kernel_rfl))⟩
  t0 := Tryz.underlying0
  a0 := Tryz.isAgg0
  z0 := Tryz.sizeOf0
  v0 := Tryz.zeroValue0
  t24 := Tryz.underlying73
  a24 := Tryz.isAgg73
  z24 := Tryz.sizeOf73
  v24 := Tryz.zeroValue73
  t26 := Tryz.underlying9
  a26 := Tryz.isAgg9
  z26 := Tryz.sizeOf9
  v26 := Tryz.zeroValue9
  t28 := Tryz.underlying125
  a28 := Tryz.isAgg125
  z28 := Tryz.sizeOf125
  v28 := Tryz.zeroValue125
  i26 := by kernel_rfl }
def Tryz.sort122_ren : Go.Shelf.Ren := ⟨fun | 6 => 122 | 8 => 125 | 9 => 147 | 19 => 157 | 20 => 158 | 21 => 170 | 22 => 171 | 23 => 172 | 24 => 173 | 25 => 174 | 26 => 175 | 27 => 176 | 28 => 177 | 29 => 178 | 36 => 195 | 31 => 180 | 32 => 181 | 37 => 196 | 38 => 197 | 39 => 198 | 41 => 204 | n => n, fun | 27 => 73 | 29 => 9 | 3 => 3 | 32 => 147 | 26 => 73 | 0 => 0 | 44 => 167 | 46 => 48 | 4 => 4 | 36 => 181 | 35 => 180 | 41 => 23 | 5 => 5 | 9 => 9 | 53 => 206 | 57 => 209 | 63 => 227 | 64 => 228 | n => n, fun | n => n⟩
theorem Tryz.sort122 : Go.Proofs.SlLaysM.n6 Tryz.prog Tryz.sort122_ren := {
  mixed := by kernel_rfl
  f6 := ⟨Tryz.f122.name, by decide, Tryz.func122.trans (congrArg some (by kernel_rfl))⟩
  f8 := Tryz.func125.trans (congrArg some (by kernel_rfl))
  f9 := ⟨Tryz.f147.name, by decide, Tryz.func147.trans (congrArg some (by kernel_rfl))⟩
  f19 := Tryz.func157.trans (congrArg some (by kernel_rfl))
  f20 := Tryz.func158.trans (congrArg some (by kernel_rfl))
  f21 := ⟨Tryz.f170.name, by decide, Tryz.func170.trans (congrArg some (by kernel_rfl))⟩
  f22 := ⟨Tryz.f171.name, by decide, Tryz.func171.trans (congrArg some (by kernel_rfl))⟩
  f23 := ⟨Tryz.f172.name, by decide, Tryz.func172.trans (congrArg some (by kernel_rfl))⟩
  f24 := ⟨Tryz.f173.name, by decide, Tryz.func173.trans (congrArg some (by kernel_rfl))⟩
  f25 := ⟨Tryz.f174.name, by decide, Tryz.func174.trans (congrArg some (by kernel_rfl))⟩
  f26 := ⟨Tryz.f175.name, by decide, Tryz.func175.trans (congrArg some (by kernel_rfl))⟩
  f27 := ⟨Tryz.f176.name, by decide, Tryz.func176.trans (congrArg some (by kernel_rfl))⟩
  f28 := ⟨Tryz.f177.name, by decide, Tryz.func177.trans (congrArg some (by kernel_rfl))⟩
  f29 := ⟨Tryz.f178.name, by decide, Tryz.func178.trans (congrArg some (by kernel_rfl))⟩
  f31 := Tryz.func180.trans (congrArg some (by kernel_rfl))
  f32 := Tryz.func181.trans (congrArg some (by kernel_rfl))
  f36 := ⟨Tryz.f195.name, by decide, Tryz.func195.trans (congrArg some (by kernel_rfl))⟩
  f37 := ⟨Tryz.f196.name, by decide, Tryz.func196.trans (congrArg some (by kernel_rfl))⟩
  f38 := ⟨Tryz.f197.name, by decide, Tryz.func197.trans (congrArg some (by kernel_rfl))⟩
  f39 := ⟨Tryz.f198.name, by decide, Tryz.func198.trans (congrArg some (by kernel_rfl))⟩
  f41 := ⟨Tryz.f204.name, by decide, Tryz.func204.trans (congrArg some (by kernel_rfl))⟩
  t0 := Tryz.underlying0
  a0 := Tryz.isAgg0
  z0 := Tryz.sizeOf0
  v0 := Tryz.zeroValue0
  t3 := Tryz.underlying3
  a3 := Tryz.isAgg3
  z3 := Tryz.sizeOf3
  v3 := Tryz.zeroValue3
  t4 := Tryz.underlying4
  a4 := Tryz.isAgg4
  z4 := Tryz.sizeOf4
  v4 := Tryz.zeroValue4
  t5 := Tryz.underlying5
  a5 := Tryz.isAgg5
  z5 := Tryz.sizeOf5
  v5 := Tryz.zeroValue5
  t9 := Tryz.underlying9
  a9 := Tryz.isAgg9
  z9 := Tryz.sizeOf9
  v9 := Tryz.zeroValue9
  t26 := Tryz.underlying73
  a26 := Tryz.isAgg73
  z26 := Tryz.sizeOf73
  v26 := Tryz.zeroValue73
  t27 := Tryz.underlying73
  a27 := Tryz.isAgg73
  z27 := Tryz.sizeOf73
  v27 := Tryz.zeroValue73
  t29 := Tryz.underlying9
  a29 := Tryz.isAgg9
  z29 := Tryz.sizeOf9
  v29 := Tryz.zeroValue9
  t32 := Tryz.underlying147
  a32 := Tryz.isAgg147
  z32 := Tryz.sizeOf147
  v32 := Tryz.zeroValue147
  t35 := Tryz.underlying180
  a35 := Tryz.isAgg180
  z35 := Tryz.sizeOf180
  v35 := Tryz.zeroValue180
  t36 := Tryz.underlying181
  a36 := Tryz.isAgg181
  z36 := Tryz.sizeOf181
  v36 := Tryz.zeroValue181
  t41 := Tryz.underlying23
  a41 := Tryz.isAgg23
  z41 := Tryz.sizeOf23
  v41 := Tryz.zeroValue23
  t44 := Tryz.underlying167
  a44 := Tryz.isAgg167
  z44 := Tryz.sizeOf167
  v44 := Tryz.zeroValue167
  t46 := Tryz.underlying48
  a46 := Tryz.isAgg48
  z46 := Tryz.sizeOf48
  v46 := Tryz.zeroValue48
  t53 := Tryz.underlying206
  a53 := Tryz.isAgg206
  z53 := Tryz.sizeOf206
  v53 := Tryz.zeroValue206
  t57 := Tryz.underlying209
  a57 := Tryz.isAgg209
  z57 := Tryz.sizeOf209
  v57 := Tryz.zeroValue209
  t63 := Tryz.underlying227
  a63 := Tryz.isAgg227
  z63 := Tryz.sizeOf227
  v63 := Tryz.zeroValue227
  t64 := Tryz.underlying228
  a64 := Tryz.isAgg228
  z64 := Tryz.sizeOf228
  v64 := Tryz.zeroValue228 }
open Go.RowKit Go.Maps Go.Sort in
theorem Tryz.sorts84 (m : Nat) : AnyZ.SortsIn Tryz.prog Tryz.sorted84_ren Fence.wide m :=
  ⟨fun blk off cap ss W hH hblk hsz => callsIn_wide.2 (AnyM.slices_Sort_string Tryz.sort122 blk off cap ss W hH hblk hsz),
   fun p cap W => callsIn_wide.2 (AnyM.slices_Sort_string_none Tryz.sort122 p cap W)⟩
open Go.RowKit Go.Maps Go.Sort in
theorem Tryz.maps_Keys_85 (mb : Option Nat) (W : World) : CallsIn Fence.wide 5 Tryz.prog 85 #[.map mb] W fun e w' => e = .returned (.func (.func 123) #[] #[.pointer (some ⟨W.heap.size, 0, none⟩)]) ∧ w' = W.alloc (.cells #[.map mb] 88) :=
  AnyZ.keys_in Tryz.keys85 Fence.wide 5 trivial rfl mb W
open Go.RowKit Go.Maps Go.Sort in
theorem Tryz.slices_Sorted_keys_84_85 {H : Type} (b nn : Nat) (D0 : DataW H) (R : Value → Option (DataW H × List MemPlace)) (w : World) (hown : w.ownsMap Tryz.prog 9 R b nn D0) (hmax : Maps.size D0 ≤ maxLen) (hbytes : Maps.size D0 * 16 ≤ 140737488355328) :
    CallsIn Fence.wide 5 Tryz.prog 84 #[.func (.func 123) #[] #[.pointer (some ⟨w.heap.size, 0, none⟩)]] (w.alloc (.cells #[.map (some b)] 88)) fun e w' => ∃ (v : Value) (ss : List (List UInt8)), e = .returned v ∧ ss.Perm (strKeys D0) ∧
      w'.ownsRow (w.alloc (.cells #[.map (some b)] 88)).heap.size 9 1 v ss.length ((ss.mergeSort (fun x y => decide (x ≤ y))).map encStr) ∧ (v = .slice none 0 0 ↔ ss = []) ∧ Below (w.alloc (.cells #[.map (some b)] 88)).heap.size (w.alloc (.cells #[.map (some b)] 88)) w' := by
  have hbl := hown.lt
  have hseq : SeqGives Fence.wide 2 Tryz.prog 123 #[.pointer (some ⟨w.heap.size, 0, none⟩)] encStr (fun ss => ss.Perm (strKeys D0)) (Maps.size D0) (w.alloc (.cells #[.map (some b)] 88)) :=
    AnyZ.keys_gives (ρ := Tryz.keys85_ren) { Tryz.keys85 with } Fence.wide _ trivial rfl (by omega) w.heap.size b nn D0 _ (by simp) (by simp) (by
      obtain ⟨es, clock, hb, Ft, hs, hD⟩ := hown
      exact ⟨es, clock, (Below.heap_alloc _ _ b hbl).trans hb, Ft, hs, hD⟩)
  exact AnyZ.sorted_in Tryz.sorted84 Fence.wide 5 trivial trivial trivial trivial rfl (by omega) (Tryz.sorts84 _) (enters_of Tryz.func122 (by kernel_rfl) rfl) 123 #[.pointer (some ⟨w.heap.size, 0, none⟩)] trivial (enters_of Tryz.func123 (by kernel_rfl) rfl) _ _ hmax hbytes _ hseq
open Go.RowKit Go.Maps Go.Sort in
theorem Tryz.slices_Sorted_keys_nil_84_85 (w : World) :
    CallsIn Fence.wide 5 Tryz.prog 84 #[.func (.func 123) #[] #[.pointer (some ⟨w.heap.size, 0, none⟩)]] (w.alloc (.cells #[.map none] 88)) fun e w' => ∃ (v : Value) (ss : List (List UInt8)), e = .returned v ∧ ss = [] ∧
      w'.ownsRow (w.alloc (.cells #[.map none] 88)).heap.size 9 1 v ss.length ((ss.mergeSort (fun x y => decide (x ≤ y))).map encStr) ∧ (v = .slice none 0 0 ↔ ss = []) ∧ Below (w.alloc (.cells #[.map none] 88)).heap.size (w.alloc (.cells #[.map none] 88)) w' := by
  have hseq : SeqGives Fence.wide 2 Tryz.prog 123 #[.pointer (some ⟨w.heap.size, 0, none⟩)] encStr (fun ss : List (List UInt8) => ss = []) 0 (w.alloc (.cells #[.map none] 88)) :=
    AnyZ.keys_gives_nil (ρ := Tryz.keys85_ren) { Tryz.keys85 with } Fence.wide _ trivial rfl w.heap.size _ (by simp) (by simp)
  exact AnyZ.sorted_in Tryz.sorted84 Fence.wide 5 trivial trivial trivial trivial rfl (by omega) (Tryz.sorts84 _) (enters_of Tryz.func122 (by kernel_rfl) rfl) 123 #[.pointer (some ⟨w.heap.size, 0, none⟩)] trivial (enters_of Tryz.func123 (by kernel_rfl) rfl) _ 0 (Nat.zero_le _) (by omega) _ hseq
end Go.Proofs
