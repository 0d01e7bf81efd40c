/-
  DERIVED: THE SHELF's CONTRACTS AT THIS DUMP, IN PLAIN WORDS (tools/lay-plain.mjs out of 'TryzSort.lean', which tools/lay-shelf.mjs wrote): THE SAME DECLARATIONS UNDER THE SAME NAMES: 'import', 'namespace', 'open', 'def', 'theorem' AND NOTHING ELSE: no command of the shelf's: FOR A HAND-IN. Each laying: the table of numbers ('.._ren') and one theorem, a field a fact of the dump's own or the kernel's comparison; each contract: ONE APPLICATION.
-/
import Derived.Shelf.Sort.Plain
import Derived.Shelf.Slices.In.SortNone
import Derived.Test.YtlobohpbgghleaaGreatDoorProg
namespace Go.Proofs
open Go.Shelf
def Tryz.lays190_ren : Go.Shelf.Ren := ⟨fun | 190 => 85 | 125 => 124 | 258 => 123 | 128 => 175 | 129 => 176 | 302 => 166 | 303 => 167 | 304 => 168 | 305 => 169 | 306 => 170 | 307 => 171 | 308 => 172 | 309 => 173 | 310 => 174 | 333 => 199 | 329 => 200 | 330 => 201 | 334 => 202 | 335 => 203 | 336 => 204 | 344 => 223 | n => n, fun | 31 => 32 | 9 => 9 | 3 => 3 | 46 => 206 | 0 => 0 | 51 => 214 | 53 => 154 | 4 => 4 | 183 => 253 | 182 => 252 | 131 => 116 | 5 => 5 | 218 => 283 | 222 => 287 | 228 => 306 | 229 => 135 | n => n, fun | n => n⟩
theorem Tryz.lays190 : Go.Proofs.Lays.n190 Tryz.prog Tryz.lays190_ren := {
  mixed := by kernel_rfl
  f125 := Tryz.func124.trans (congrArg some (by kernel_rfl))
  f128 := Tryz.func175.trans (congrArg some (by kernel_rfl))
  f129 := Tryz.func176.trans (congrArg some (by kernel_rfl))
  f190 := Tryz.func85.trans (congrArg some (by kernel_rfl))
  f258 := Tryz.func123.trans (congrArg some (by kernel_rfl))
  f302 := Tryz.func166.trans (congrArg some (by kernel_rfl))
  f303 := Tryz.func167.trans (congrArg some (by kernel_rfl))
  f304 := Tryz.func168.trans (congrArg some (by kernel_rfl))
  f305 := Tryz.func169.trans (congrArg some (by kernel_rfl))
  f306 := Tryz.func170.trans (congrArg some (by kernel_rfl))
  f307 := Tryz.func171.trans (congrArg some (by kernel_rfl))
  f308 := Tryz.func172.trans (congrArg some (by kernel_rfl))
  f309 := Tryz.func173.trans (congrArg some (by kernel_rfl))
  f310 := Tryz.func174.trans (congrArg some (by kernel_rfl))
  f329 := Tryz.func200.trans (congrArg some (by kernel_rfl))
  f330 := Tryz.func201.trans (congrArg some (by kernel_rfl))
  f333 := Tryz.func199.trans (congrArg some (by kernel_rfl))
  f334 := Tryz.func202.trans (congrArg some (by kernel_rfl))
  f335 := Tryz.func203.trans (congrArg some (by kernel_rfl))
  f336 := Tryz.func204.trans (congrArg some (by kernel_rfl))
  f344 := Tryz.func223.trans (congrArg some (by kernel_rfl))
  t0 := Tryz.underlying0
  a0 := Tryz.isAgg0
  z0 := Tryz.sizeOf0
  v0 := Tryz.zeroValue0
  t3 := Tryz.underlying3
  a3 := Tryz.isAgg3
  z3 := Tryz.sizeOf3
  v3 := Tryz.zeroValue3
  t4 := Tryz.underlying4
  a4 := Tryz.isAgg4
  z4 := Tryz.sizeOf4
  v4 := Tryz.zeroValue4
  t5 := Tryz.underlying5
  a5 := Tryz.isAgg5
  z5 := Tryz.sizeOf5
  v5 := Tryz.zeroValue5
  t9 := Tryz.underlying9
  a9 := Tryz.isAgg9
  z9 := Tryz.sizeOf9
  v9 := Tryz.zeroValue9
  t31 := Tryz.underlying32
  a31 := Tryz.isAgg32
  z31 := Tryz.sizeOf32
  v31 := Tryz.zeroValue32
  t46 := Tryz.underlying206
  a46 := Tryz.isAgg206
  z46 := Tryz.sizeOf206
  v46 := Tryz.zeroValue206
  t51 := Tryz.underlying214
  a51 := Tryz.isAgg214
  z51 := Tryz.sizeOf214
  v51 := Tryz.zeroValue214
  t53 := Tryz.underlying154
  a53 := Tryz.isAgg154
  z53 := Tryz.sizeOf154
  v53 := Tryz.zeroValue154
  t131 := Tryz.underlying116
  a131 := Tryz.isAgg116
  z131 := Tryz.sizeOf116
  v131 := Tryz.zeroValue116
  t182 := Tryz.underlying252
  a182 := Tryz.isAgg252
  z182 := Tryz.sizeOf252
  v182 := Tryz.zeroValue252
  t183 := Tryz.underlying253
  a183 := Tryz.isAgg253
  z183 := Tryz.sizeOf253
  v183 := Tryz.zeroValue253
  t218 := Tryz.underlying283
  a218 := Tryz.isAgg283
  z218 := Tryz.sizeOf283
  v218 := Tryz.zeroValue283
  t222 := Tryz.underlying287
  a222 := Tryz.isAgg287
  z222 := Tryz.sizeOf287
  v222 := Tryz.zeroValue287
  t228 := Tryz.underlying306
  a228 := Tryz.isAgg306
  z228 := Tryz.sizeOf306
  v228 := Tryz.zeroValue306
  t229 := Tryz.underlying135
  a229 := Tryz.isAgg135
  z229 := Tryz.sizeOf135
  v229 := Tryz.zeroValue135 }
open Go.Sort Go.RowKit in
theorem Tryz.slices_Sort_string (blk off cap : Nat) (ss : List (List UInt8)) (w : World) (hH : Holds encStr w blk off ss.toArray) (hblk : blk < w.heap.size) (hsz : ss.length < 4611686018427387904) :
    Calls Tryz.prog 85 #[.slice (some ⟨blk, off, none⟩) ss.length cap] w fun e w' =>
      e = .returned (.tuple #[]) ∧ ∃ n os, w' = grow (putRow encStr (Sort.ahead w n) blk off (ss.mergeSort fun x y => decide (x ≤ y)).toArray) os := Any.slices_Sort_string Tryz.lays190 blk off cap ss w hH hblk hsz
end Go.Proofs
