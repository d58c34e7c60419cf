/- What the library's sorting functions lean on, at this program: laid by the kit's tool, in plain words. -/
import Derived.Shelf.Sort.Plain
import Derived.Shelf.Slices.In.SortNone
import Derived.Ground.Names2Prog
import Derived.Shelf.Slices.CompactI
import Derived.Shelf.Small.Wraps
import Derived.Ground.SlsgProg
import Derived.Shelf.SlCmpFuncs.MinMaxFunc
import Derived.Ground.SlgnProg
import Derived.Shelf.SlicesE.Delete
import Derived.Test.YtbldllghkfgkeaaProg
namespace Go.Proofs
open Go.Shelf
def Try.laysSort_ren : Go.Shelf.Ren := ⟨fun | 189 => 107 | 125 => 125 | 257 => 124 | 128 => 139 | 129 => 140 | 294 => 130 | 295 => 131 | 296 => 132 | 297 => 133 | 298 => 134 | 299 => 135 | 216 => 136 | 300 => 137 | 301 => 138 | 328 => 143 | 329 => 144 | 330 => 145 | 331 => 146 | 332 => 147 | 215 => 106 | 343 => 149 | n => n, fun | 28 => 51 | 3 => 3 | 46 => 152 | 0 => 0 | 51 => 170 | 53 => 172 | 4 => 4 | 183 => 163 | 182 => 162 | 131 => 139 | 5 => 5 | 9 => 9 | 218 => 173 | 222 => 177 | 228 => 180 | 229 => 181 | n => n, fun | n => n⟩
theorem Try.laysSort : Go.Proofs.Lays.n189 Try.prog Try.laysSort_ren := {
  mixed := by kernel_rfl
  f125 := Try.func125.trans (congrArg some (by kernel_rfl))
  f128 := Try.func139.trans (congrArg some (by kernel_rfl))
  f129 := Try.func140.trans (congrArg some (by kernel_rfl))
  f189 := Try.func107.trans (congrArg some (by kernel_rfl))
  f215 := Try.func106.trans (congrArg some (by kernel_rfl))
  f216 := Try.func136.trans (congrArg some (by kernel_rfl))
  f257 := Try.func124.trans (congrArg some (by kernel_rfl))
  f294 := Try.func130.trans (congrArg some (by kernel_rfl))
  f295 := Try.func131.trans (congrArg some (by kernel_rfl))
  f296 := Try.func132.trans (congrArg some (by kernel_rfl))
  f297 := Try.func133.trans (congrArg some (by kernel_rfl))
  f298 := Try.func134.trans (congrArg some (by kernel_rfl))
  f299 := Try.func135.trans (congrArg some (by kernel_rfl))
  f300 := Try.func137.trans (congrArg some (by kernel_rfl))
  f301 := Try.func138.trans (congrArg some (by kernel_rfl))
  f328 := Try.func143.trans (congrArg some (by kernel_rfl))
  f329 := Try.func144.trans (congrArg some (by kernel_rfl))
  f330 := Try.func145.trans (congrArg some (by kernel_rfl))
  f331 := Try.func146.trans (congrArg some (by kernel_rfl))
  f332 := Try.func147.trans (congrArg some (by kernel_rfl))
  f343 := Try.func149.trans (congrArg some (by kernel_rfl))
  t0 := Try.underlying0
  a0 := Try.isAgg0
  z0 := Try.sizeOf0
  v0 := Try.zeroValue0
  t3 := Try.underlying3
  a3 := Try.isAgg3
  z3 := Try.sizeOf3
  v3 := Try.zeroValue3
  t4 := Try.underlying4
  a4 := Try.isAgg4
  z4 := Try.sizeOf4
  v4 := Try.zeroValue4
  t5 := Try.underlying5
  a5 := Try.isAgg5
  z5 := Try.sizeOf5
  v5 := Try.zeroValue5
  t9 := Try.underlying9
  a9 := Try.isAgg9
  z9 := Try.sizeOf9
  v9 := Try.zeroValue9
  t28 := Try.underlying51
  a28 := Try.isAgg51
  z28 := Try.sizeOf51
  v28 := Try.zeroValue51
  t46 := Try.underlying152
  a46 := Try.isAgg152
  z46 := Try.sizeOf152
  v46 := Try.zeroValue152
  t51 := Try.underlying170
  a51 := Try.isAgg170
  z51 := Try.sizeOf170
  v51 := Try.zeroValue170
  t53 := Try.underlying172
  a53 := Try.isAgg172
  z53 := Try.sizeOf172
  v53 := Try.zeroValue172
  t131 := Try.underlying139
  a131 := Try.isAgg139
  z131 := Try.sizeOf139
  v131 := Try.zeroValue139
  t182 := Try.underlying162
  a182 := Try.isAgg162
  z182 := Try.sizeOf162
  v182 := Try.zeroValue162
  t183 := Try.underlying163
  a183 := Try.isAgg163
  z183 := Try.sizeOf163
  v183 := Try.zeroValue163
  t218 := Try.underlying173
  a218 := Try.isAgg173
  z218 := Try.sizeOf173
  v218 := Try.zeroValue173
  t222 := Try.underlying177
  a222 := Try.isAgg177
  z222 := Try.sizeOf177
  v222 := Try.zeroValue177
  t228 := Try.underlying180
  a228 := Try.isAgg180
  z228 := Try.sizeOf180
  v228 := Try.zeroValue180
  t229 := Try.underlying181
  a229 := Try.isAgg181
  z229 := Try.sizeOf181
  v229 := Try.zeroValue181 }
def Try.laysCompact_ren : Go.Shelf.Ren := ⟨fun | 20 => 113 | n => n, fun | 22 => 51 | 3 => 3 | 4 => 4 | 0 => 0 | n => n, fun | n => n⟩
theorem Try.laysCompact : Go.Proofs.Lays2.n20 Try.prog Try.laysCompact_ren := {
  mixed := by kernel_rfl
  f20 := Try.func113.trans (congrArg some (by kernel_rfl))
  t0 := Try.underlying0
  a0 := Try.isAgg0
  z0 := Try.sizeOf0
  v0 := Try.zeroValue0
  t3 := Try.underlying3
  a3 := Try.isAgg3
  z3 := Try.sizeOf3
  v3 := Try.zeroValue3
  t4 := Try.underlying4
  a4 := Try.isAgg4
  z4 := Try.sizeOf4
  v4 := Try.zeroValue4
  t22 := Try.underlying51
  a22 := Try.isAgg51
  z22 := Try.sizeOf51
  v22 := Try.zeroValue51
  i3 := by kernel_rfl }
def Try.laysCompare_ren : Go.Shelf.Ren := ⟨fun | 122 => 75 | 215 => 106 | n => n, fun | 3 => 3 | 4 => 4 | n => n, fun | n => n⟩
theorem Try.laysCompare : Go.Proofs.Lays.n122 Try.prog Try.laysCompare_ren := {
  mixed := by kernel_rfl
  f122 := Try.func75.trans (congrArg some (by kernel_rfl))
  f215 := Try.func106.trans (congrArg some (by kernel_rfl))
  t3 := Try.underlying3
  a3 := Try.isAgg3
  z3 := Try.sizeOf3
  v3 := Try.zeroValue3
  t4 := Try.underlying4
  a4 := Try.isAgg4
  z4 := Try.sizeOf4
  v4 := Try.zeroValue4 }
def Try.laysMin_ren : Go.Shelf.Ren := ⟨fun | 10 => 72 | n => n, fun | 22 => 51 | 24 => 3 | 25 => 111 | 3 => 3 | 4 => 4 | 9 => 9 | 20 => 20 | 0 => 0 | n => n, fun | n => n⟩
theorem Try.laysMin : Go.Proofs.SlLaysG2.n10 Try.prog Try.laysMin_ren := {
  mixed := by kernel_rfl
  f10 := ⟨Try.f72.name, by decide, Try.func72.trans (congrArg some (by kernel_rfl))⟩
  t0 := Try.underlying0
  a0 := Try.isAgg0
  z0 := Try.sizeOf0
  v0 := Try.zeroValue0
  t3 := Try.underlying3
  a3 := Try.isAgg3
  z3 := Try.sizeOf3
  v3 := Try.zeroValue3
  t4 := Try.underlying4
  a4 := Try.isAgg4
  z4 := Try.sizeOf4
  v4 := Try.zeroValue4
  t9 := Try.underlying9
  a9 := Try.isAgg9
  z9 := Try.sizeOf9
  v9 := Try.zeroValue9
  t20 := Try.underlying20
  a20 := Try.isAgg20
  z20 := Try.sizeOf20
  v20 := Try.zeroValue20
  t22 := Try.underlying51
  a22 := Try.isAgg51
  z22 := Try.sizeOf51
  v22 := Try.zeroValue51
  a24 := Try.isAgg3
  z24 := Try.sizeOf3
  t25 := Try.underlying111
  a25 := Try.isAgg111
  z25 := Try.sizeOf111
  v25 := Try.zeroValue111 }
def Try.laysDeleteP_ren : Go.Shelf.Ren := ⟨fun | 45 => 56 | n => n, fun | 22 => 79 | 23 => 84 | 3 => 3 | 4 => 4 | 0 => 0 | n => n, fun | n => n⟩
theorem Try.laysDeleteP : Go.Proofs.SlLaysE.n45 Try.prog Try.laysDeleteP_ren := {
  mixed := by kernel_rfl
  f45 := ⟨Try.f56.name, by decide, Try.func56.trans (congrArg some (by kernel_rfl))⟩
  t0 := Try.underlying0
  a0 := Try.isAgg0
  z0 := Try.sizeOf0
  v0 := Try.zeroValue0
  t3 := Try.underlying3
  a3 := Try.isAgg3
  z3 := Try.sizeOf3
  v3 := Try.zeroValue3
  t4 := Try.underlying4
  a4 := Try.isAgg4
  z4 := Try.sizeOf4
  v4 := Try.zeroValue4
  t22 := Try.underlying79
  a22 := Try.isAgg79
  z22 := Try.sizeOf79
  v22 := Try.zeroValue79
  a23 := Try.isAgg84
  z23 := Try.sizeOf84 }
end Go.Proofs
