/- Contracts of library functions, laid at this program by the kit: strings_Split, slices_Sort_string, slices_Sort_string_none. -/
import Derived.Shelf.Sort.Plain
import Derived.Shelf.Strings.Split
import Derived.Shelf.Slices.In.SortNone
import Derived.Test.YtabibfabieghpaaGreatDoorProg
namespace Go.Proofs
open Go.Shelf
def Tryz.lays190_ren : Go.Shelf.Ren := ⟨fun | 190 => 157 | 125 => 171 | 258 => 170 | 128 => 191 | 129 => 192 | 302 => 182 | 303 => 183 | 304 => 184 | 305 => 185 | 306 => 186 | 307 => 187 | 308 => 188 | 309 => 189 | 310 => 190 | 333 => 194 | 329 => 195 | 330 => 196 | 334 => 197 | 335 => 198 | 336 => 199 | 344 => 200 | n => n, fun | 31 => 54 | 9 => 9 | 3 => 3 | 46 => 161 | 0 => 0 | 51 => 220 | 53 => 254 | 4 => 4 | 183 => 247 | 182 => 246 | 131 => 100 | 5 => 5 | 218 => 255 | 222 => 97 | 228 => 264 | 229 => 265 | n => n, fun | n => n⟩
theorem Tryz.lays190 : Go.Proofs.Lays.n190 Tryz.prog Tryz.lays190_ren := {
  mixed := by kernel_rfl
  f125 := Tryz.func171.trans (congrArg some (by kernel_rfl))
  f128 := Tryz.func191.trans (congrArg some (by kernel_rfl))
  f129 := Tryz.func192.trans (congrArg some (by kernel_rfl))
  f190 := Tryz.func157.trans (congrArg some (by kernel_rfl))
  f258 := Tryz.func170.trans (congrArg some (by kernel_rfl))
  f302 := Tryz.func182.trans (congrArg some (by kernel_rfl))
  f303 := Tryz.func183.trans (congrArg some (by kernel_rfl))
  f304 := Tryz.func184.trans (congrArg some (by kernel_rfl))
  f305 := Tryz.func185.trans (congrArg some (by kernel_rfl))
  f306 := Tryz.func186.trans (congrArg some (by kernel_rfl))
  f307 := Tryz.func187.trans (congrArg some (by kernel_rfl))
  f308 := Tryz.func188.trans (congrArg some (by kernel_rfl))
  f309 := Tryz.func189.trans (congrArg some (by kernel_rfl))
  f310 := Tryz.func190.trans (congrArg some (by kernel_rfl))
  f329 := Tryz.func195.trans (congrArg some (by kernel_rfl))
  f330 := Tryz.func196.trans (congrArg some (by kernel_rfl))
  f333 := Tryz.func194.trans (congrArg some (by kernel_rfl))
  f334 := Tryz.func197.trans (congrArg some (by kernel_rfl))
  f335 := Tryz.func198.trans (congrArg some (by kernel_rfl))
  f336 := Tryz.func199.trans (congrArg some (by kernel_rfl))
  f344 := Tryz.func200.trans (congrArg some (by kernel_rfl))
  t0 := Tryz.underlying0
  a0 := Tryz.isAgg0
  z0 := Tryz.sizeOf0
  v0 := Tryz.zeroValue0
  t3 := Tryz.underlying3
  a3 := Tryz.isAgg3
  z3 := Tryz.sizeOf3
  v3 := Tryz.zeroValue3
  t4 := Tryz.underlying4
  a4 := Tryz.isAgg4
  z4 := Tryz.sizeOf4
  v4 := Tryz.zeroValue4
  t5 := Tryz.underlying5
  a5 := Tryz.isAgg5
  z5 := Tryz.sizeOf5
  v5 := Tryz.zeroValue5
  t9 := Tryz.underlying9
  a9 := Tryz.isAgg9
  z9 := Tryz.sizeOf9
  v9 := Tryz.zeroValue9
  t31 := Tryz.underlying54
  a31 := Tryz.isAgg54
  z31 := Tryz.sizeOf54
  v31 := Tryz.zeroValue54
  t46 := Tryz.underlying161
  a46 := Tryz.isAgg161
  z46 := Tryz.sizeOf161
  v46 := Tryz.zeroValue161
  t51 := Tryz.underlying220
  a51 := Tryz.isAgg220
  z51 := Tryz.sizeOf220
  v51 := Tryz.zeroValue220
  t53 := Tryz.underlying254
  a53 := Tryz.isAgg254
  z53 := Tryz.sizeOf254
  v53 := Tryz.zeroValue254
  t131 := Tryz.underlying100
  a131 := Tryz.isAgg100
  z131 := Tryz.sizeOf100
  v131 := Tryz.zeroValue100
  t182 := Tryz.underlying246
  a182 := Tryz.isAgg246
  z182 := Tryz.sizeOf246
  v182 := Tryz.zeroValue246
  t183 := Tryz.underlying247
  a183 := Tryz.isAgg247
  z183 := Tryz.sizeOf247
  v183 := Tryz.zeroValue247
  t218 := Tryz.underlying255
  a218 := Tryz.isAgg255
  z218 := Tryz.sizeOf255
  v218 := Tryz.zeroValue255
  t222 := Tryz.underlying97
  a222 := Tryz.isAgg97
  z222 := Tryz.sizeOf97
  v222 := Tryz.zeroValue97
  t228 := Tryz.underlying264
  a228 := Tryz.isAgg264
  z228 := Tryz.sizeOf264
  v228 := Tryz.zeroValue264
  t229 := Tryz.underlying265
  a229 := Tryz.isAgg265
  z229 := Tryz.sizeOf265
  v229 := Tryz.zeroValue265 }
open Go.Sort Go.RowKit in
theorem Tryz.slices_Sort_string (blk off cap : Nat) (ss : List (List UInt8)) (w : World) (hH : Holds encStr w blk off ss.toArray) (hblk : blk < w.heap.size) (hsz : ss.length < 4611686018427387904) :
    Calls Tryz.prog 157 #[.slice (some ⟨blk, off, none⟩) ss.length cap] w fun e w' =>
      e = .returned (.tuple #[]) ∧ ∃ n os, w' = grow (putRow encStr (Sort.ahead w n) blk off (ss.mergeSort fun x y => decide (x ≤ y)).toArray) os := Any.slices_Sort_string Tryz.lays190 blk off cap ss w hH hblk hsz
def Tryz.lays146_ren : Go.Shelf.Ren := ⟨fun | 146 => 143 | 221 => 156 | 268 => 167 | 138 => 168 | 143 => 169 | 195 => 179 | 197 => 180 | 218 => 181 | 219 => 141 | 260 => 193 | 217 => 152 | 225 => 153 | 224 => 154 | 267 => 155 | 266 => 165 | 314 => 166 | n => n, fun | 9 => 9 | 31 => 54 | 3 => 3 | 4 => 4 | 0 => 0 | 105 => 243 | 21 => 21 | 5 => 5 | 46 => 161 | 119 => 260 | 139 => 263 | 138 => 262 | 146 => 221 | 51 => 220 | n => n, fun | 1 => 0 | 3 => 2 | 4 => 3 | n => n⟩
theorem Tryz.lays146 : Go.Proofs.Lays.n146 Tryz.prog Tryz.lays146_ren := {
  mixed := by kernel_rfl
  f138 := Tryz.func168.trans (congrArg some (by kernel_rfl))
  f143 := Tryz.func169.trans (congrArg some (by kernel_rfl))
  f146 := Tryz.func143.trans (congrArg some (by kernel_rfl))
  f195 := Tryz.func179.trans (congrArg some (by kernel_rfl))
  f197 := Tryz.func180.trans (congrArg some (by kernel_rfl))
  f217 := Tryz.func152.trans (congrArg some (by kernel_rfl))
  f218 := Tryz.func181.trans (congrArg some (by kernel_rfl))
  f219 := Tryz.func141.trans (congrArg some (by kernel_rfl))
  f221 := Tryz.func156.trans (congrArg some (by kernel_rfl))
  f224 := Tryz.func154.trans (congrArg some (by kernel_rfl))
  f225 := Tryz.func153.trans (congrArg some (by kernel_rfl))
  f260 := Tryz.func193.trans (congrArg some (by kernel_rfl))
  f266 := Tryz.func165.trans (congrArg some (by kernel_rfl))
  f267 := Tryz.func155.trans (congrArg some (by kernel_rfl))
  f268 := Tryz.func167.trans (congrArg some (by kernel_rfl))
  f314 := Tryz.func166.trans (congrArg some (by kernel_rfl))
  t0 := Tryz.underlying0
  a0 := Tryz.isAgg0
  z0 := Tryz.sizeOf0
  v0 := Tryz.zeroValue0
  t3 := Tryz.underlying3
  a3 := Tryz.isAgg3
  z3 := Tryz.sizeOf3
  v3 := Tryz.zeroValue3
  t4 := Tryz.underlying4
  a4 := Tryz.isAgg4
  z4 := Tryz.sizeOf4
  v4 := Tryz.zeroValue4
  t5 := Tryz.underlying5
  a5 := Tryz.isAgg5
  z5 := Tryz.sizeOf5
  v5 := Tryz.zeroValue5
  t9 := Tryz.underlying9
  a9 := Tryz.isAgg9
  z9 := Tryz.sizeOf9
  v9 := Tryz.zeroValue9
  t21 := Tryz.underlying21
  a21 := Tryz.isAgg21
  z21 := Tryz.sizeOf21
  v21 := Tryz.zeroValue21
  t31 := Tryz.underlying54
  a31 := Tryz.isAgg54
  z31 := Tryz.sizeOf54
  v31 := Tryz.zeroValue54
  t46 := Tryz.underlying161
  a46 := Tryz.isAgg161
  z46 := Tryz.sizeOf161
  v46 := Tryz.zeroValue161
  t51 := Tryz.underlying220
  a51 := Tryz.isAgg220
  z51 := Tryz.sizeOf220
  v51 := Tryz.zeroValue220
  t105 := Tryz.underlying243
  a105 := Tryz.isAgg243
  z105 := Tryz.sizeOf243
  v105 := Tryz.zeroValue243
  t119 := Tryz.underlying260
  a119 := Tryz.isAgg260
  z119 := Tryz.sizeOf260
  t138 := Tryz.underlying262
  a138 := Tryz.isAgg262
  z138 := Tryz.sizeOf262
  v138 := Tryz.zeroValue262
  t139 := Tryz.underlying263
  a139 := Tryz.isAgg263
  z139 := Tryz.sizeOf263
  v139 := Tryz.zeroValue263
  t146 := Tryz.underlying221
  a146 := Tryz.isAgg221
  z146 := Tryz.sizeOf221
  v146 := Tryz.zeroValue221
  g1 := by kernel_rfl
  g3 := by kernel_rfl
  g4 := by kernel_rfl }
open Go.RowKit Go.Lib in
/-- strings.Split. (LAID: no walk: one application.) -/
theorem Tryz.strings_Split (s sep : ByteArray) (m : Int) (w : World) (hs : s.size < 4294967281) (hm : w.cell? ⟨0, 0, none⟩ = some (.int .i64 m)) (h1 : 1 ≤ sep.size) :
    Calls Tryz.prog 143 #[.string s, .string sep] w fun e w' =>
      e = .returned (.slice (some ⟨w.heap.size, 0, none⟩) (Lib.countB s sep + 1) (Lib.countB s sep + 1)) ∧ w' = w.alloc (.cells ((Lib.splitB sep 0 (Lib.countB s sep) s).map Value.string).toArray 9) := Any.strings_Split Tryz.lays146 (by kernel_rfl) s sep m w hs hm h1
open Go.RowKit Go.Sort in
/-- .. and plain. (LAID: no walk: one application.) -/
theorem Tryz.slices_Sort_string_none (p : Option Addr) (cap : Nat) (w : World) :
    Calls Tryz.prog 157 #[.slice p 0 cap] w fun e w' => e = .returned (.tuple #[]) ∧ w' = w := Any.slices_Sort_string_none Tryz.lays190 p cap w
end Go.Proofs
