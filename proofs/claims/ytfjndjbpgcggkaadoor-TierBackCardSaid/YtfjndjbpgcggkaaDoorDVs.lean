/-
  DERIVED: THE SHELF's CONTRACTS AT THIS DUMP, IN PLAIN WORDS (tools/lay-plain.mjs out of 'YtfjndjbpgcggkaaDoorVs.lean', which tools/lay-shelf.mjs wrote): THE SAME DECLARATIONS UNDER THE SAME NAMES: 'import', 'namespace', 'open', 'def', 'theorem' AND NOTHING ELSE: no command of the shelf's: FOR A HAND-IN. Each laying: the table of numbers ('.._ren') and one theorem, a field a fact of the dump's own or the kernel's comparison; each contract: ONE APPLICATION.
-/
import Derived.Shelf.Unicode.ValidAny
import Derived.Shelf.Sort.Plain
import Derived.Shelf.Slices.In.SortNone
import Derived.Ground.NamesProg
import Derived.Test.YtfjndjbpgcggkaaDoorProg
set_option linter.unusedVariables false
set_option linter.unusedSimpArgs false
namespace Go.Proofs
open Go.Shelf
def Tryd.lays196_ren : Go.Shelf.Ren := ⟨fun | 196 => 110 | 259 => 149 | n => n, fun | 9 => 9 | 4 => 4 | 3 => 3 | 5 => 5 | 12 => 12 | 119 => 209 | 0 => 0 | 46 => 165 | 139 => 212 | 138 => 211 | 53 => 185 | n => n, fun | 3 => 0 | 4 => 1 | n => n⟩
theorem Tryd.lays196 : Go.Proofs.Lays.n196 Tryd.prog Tryd.lays196_ren := {
  mixed := by kernel_rfl
  f196 := Tryd.func110.trans (congrArg some (by kernel_rfl))
  f259 := Tryd.func149.trans (congrArg some (by kernel_rfl))
  t0 := Tryd.underlying0
  a0 := Tryd.isAgg0
  z0 := Tryd.sizeOf0
  v0 := Tryd.zeroValue0
  t3 := Tryd.underlying3
  a3 := Tryd.isAgg3
  z3 := Tryd.sizeOf3
  v3 := Tryd.zeroValue3
  t4 := Tryd.underlying4
  a4 := Tryd.isAgg4
  z4 := Tryd.sizeOf4
  v4 := Tryd.zeroValue4
  t5 := Tryd.underlying5
  a5 := Tryd.isAgg5
  z5 := Tryd.sizeOf5
  v5 := Tryd.zeroValue5
  t9 := Tryd.underlying9
  a9 := Tryd.isAgg9
  z9 := Tryd.sizeOf9
  v9 := Tryd.zeroValue9
  t12 := Tryd.underlying12
  a12 := Tryd.isAgg12
  z12 := Tryd.sizeOf12
  v12 := Tryd.zeroValue12
  t46 := Tryd.underlying165
  a46 := Tryd.isAgg165
  z46 := Tryd.sizeOf165
  v46 := Tryd.zeroValue165
  t53 := Tryd.underlying185
  a53 := Tryd.isAgg185
  z53 := Tryd.sizeOf185
  v53 := Tryd.zeroValue185
  t119 := Tryd.underlying209
  a119 := Tryd.isAgg209
  z119 := Tryd.sizeOf209
  t138 := Tryd.underlying211
  a138 := Tryd.isAgg211
  z138 := Tryd.sizeOf211
  v138 := Tryd.zeroValue211
  t139 := Tryd.underlying212
  a139 := Tryd.isAgg212
  z139 := Tryd.sizeOf212
  v139 := Tryd.zeroValue212
  g3 := by kernel_rfl
  g4 := by kernel_rfl }
def Tryd.lays190_ren : Go.Shelf.Ren := ⟨fun | 190 => 57 | 125 => 112 | 258 => 111 | 128 => 159 | 129 => 160 | 302 => 150 | 303 => 151 | 304 => 152 | 305 => 153 | 306 => 154 | 307 => 155 | 308 => 156 | 309 => 157 | 310 => 158 | 333 => 173 | 329 => 174 | 330 => 175 | 334 => 176 | 335 => 177 | 336 => 178 | 344 => 189 | n => n, fun | 31 => 41 | 9 => 9 | 3 => 3 | 46 => 165 | 0 => 0 | 51 => 76 | 53 => 185 | 4 => 4 | 183 => 215 | 182 => 214 | 131 => 130 | 5 => 5 | 218 => 234 | 222 => 238 | 228 => 251 | 229 => 106 | n => n, fun | n => n⟩
theorem Tryd.lays190 : Go.Proofs.Lays.n190 Tryd.prog Tryd.lays190_ren := {
  mixed := by kernel_rfl
  f125 := Tryd.func112.trans (congrArg some (by kernel_rfl))
  f128 := Tryd.func159.trans (congrArg some (by kernel_rfl))
  f129 := Tryd.func160.trans (congrArg some (by kernel_rfl))
  f190 := Tryd.func57.trans (congrArg some (by kernel_rfl))
  f258 := Tryd.func111.trans (congrArg some (by kernel_rfl))
  f302 := Tryd.func150.trans (congrArg some (by kernel_rfl))
  f303 := Tryd.func151.trans (congrArg some (by kernel_rfl))
  f304 := Tryd.func152.trans (congrArg some (by kernel_rfl))
  f305 := Tryd.func153.trans (congrArg some (by kernel_rfl))
  f306 := Tryd.func154.trans (congrArg some (by kernel_rfl))
  f307 := Tryd.func155.trans (congrArg some (by kernel_rfl))
  f308 := Tryd.func156.trans (congrArg some (by kernel_rfl))
  f309 := Tryd.func157.trans (congrArg some (by kernel_rfl))
  f310 := Tryd.func158.trans (congrArg some (by kernel_rfl))
  f329 := Tryd.func174.trans (congrArg some (by kernel_rfl))
  f330 := Tryd.func175.trans (congrArg some (by kernel_rfl))
  f333 := Tryd.func173.trans (congrArg some (by kernel_rfl))
  f334 := Tryd.func176.trans (congrArg some (by kernel_rfl))
  f335 := Tryd.func177.trans (congrArg some (by kernel_rfl))
  f336 := Tryd.func178.trans (congrArg some (by kernel_rfl))
  f344 := Tryd.func189.trans (congrArg some (by kernel_rfl))
  t0 := Tryd.underlying0
  a0 := Tryd.isAgg0
  z0 := Tryd.sizeOf0
  v0 := Tryd.zeroValue0
  t3 := Tryd.underlying3
  a3 := Tryd.isAgg3
  z3 := Tryd.sizeOf3
  v3 := Tryd.zeroValue3
  t4 := Tryd.underlying4
  a4 := Tryd.isAgg4
  z4 := Tryd.sizeOf4
  v4 := Tryd.zeroValue4
  t5 := Tryd.underlying5
  a5 := Tryd.isAgg5
  z5 := Tryd.sizeOf5
  v5 := Tryd.zeroValue5
  t9 := Tryd.underlying9
  a9 := Tryd.isAgg9
  z9 := Tryd.sizeOf9
  v9 := Tryd.zeroValue9
  t31 := Tryd.underlying41
  a31 := Tryd.isAgg41
  z31 := Tryd.sizeOf41
  v31 := Tryd.zeroValue41
  t46 := Tryd.underlying165
  a46 := Tryd.isAgg165
  z46 := Tryd.sizeOf165
  v46 := Tryd.zeroValue165
  t51 := Tryd.underlying76
  a51 := Tryd.isAgg76
  z51 := Tryd.sizeOf76
  v51 := Tryd.zeroValue76
  t53 := Tryd.underlying185
  a53 := Tryd.isAgg185
  z53 := Tryd.sizeOf185
  v53 := Tryd.zeroValue185
  t131 := Tryd.underlying130
  a131 := Tryd.isAgg130
  z131 := Tryd.sizeOf130
  v131 := Tryd.zeroValue130
  t182 := Tryd.underlying214
  a182 := Tryd.isAgg214
  z182 := Tryd.sizeOf214
  v182 := Tryd.zeroValue214
  t183 := Tryd.underlying215
  a183 := Tryd.isAgg215
  z183 := Tryd.sizeOf215
  v183 := Tryd.zeroValue215
  t218 := Tryd.underlying234
  a218 := Tryd.isAgg234
  z218 := Tryd.sizeOf234
  v218 := Tryd.zeroValue234
  t222 := Tryd.underlying238
  a222 := Tryd.isAgg238
  z222 := Tryd.sizeOf238
  v222 := Tryd.zeroValue238
  t228 := Tryd.underlying251
  a228 := Tryd.isAgg251
  z228 := Tryd.sizeOf251
  v228 := Tryd.zeroValue251
  t229 := Tryd.underlying106
  a229 := Tryd.isAgg106
  z229 := Tryd.sizeOf106
  v229 := Tryd.zeroValue106 }
open Go.RowKit Go.Lib Go.Sort
/-- unicode/utf8.ValidString, by the shelf. -/
theorem Tryd.ValidString (s : ByteArray) (w : World) (hs : s.size ≤ 9223372036854775807) (hT : Lib.Utf8Tabs (Tryd.lays196_ren.g 3) (Tryd.lays196_ren.g 4) w) :
    Calls Tryd.prog 110 #[.string s] w fun e w' => e = .returned (.bool (Lib.validD s.data.toList)) ∧ Below w.heap.size w w' :=
  Any.utf8_ValidString Tryd.lays196 s w hs hT
/-- slices.Sort at texts, by the shelf. -/
theorem Tryd.SortStrings (blk off cap : Nat) (ss : List (List UInt8)) (w : World) (hH : Holds encStr w blk off ss.toArray) (hblk : blk < w.heap.size) (hsz : ss.length < 4611686018427387904) :
    Calls Tryd.prog 57 #[.slice (some ⟨blk, off, none⟩) ss.length cap] w fun e w' =>
      e = .returned (.tuple #[]) ∧ ∃ n os, w' = grow (putRow encStr (Sort.ahead w n) blk off (ss.mergeSort fun x y => decide (x ≤ y)).toArray) os :=
  Any.slices_Sort_string Tryd.lays190 blk off cap ss w hH hblk hsz
theorem Tryd.SortNone (p : Option Addr) (cap : Nat) (w : World) : Calls Tryd.prog 57 #[.slice p 0 cap] w fun e w' => e = .returned (.tuple #[]) ∧ w' = w :=
  Any.slices_Sort_string_none Tryd.lays190 p cap w
end Go.Proofs
