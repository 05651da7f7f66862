/- slices.Sort at whole numbers: the library's own contract, laid at this program (the laying's text is written by the kit's command; see NOTES). -/
import Derived.Test.YtefpmjnimnmniaaRefI14
import Derived.Shelf.Sort.Plain
import Derived.Shelf.Slices.In.SortNone
import Derived.Sort.OwnSortedInts
namespace Go.Proofs.Ytefpmjnimnmniaa
set_option linter.unusedSimpArgs false
set_option linter.unusedVariables false
open Go.RowKit Go.Shelf

def sortLays_ren : Go.Shelf.Ren := ⟨fun | 189 => 85 | 125 => 103 | 257 => 102 | 128 => 121 | 129 => 122 | 294 => 112 | 295 => 113 | 296 => 114 | 297 => 115 | 298 => 116 | 299 => 117 | 216 => 118 | 300 => 119 | 301 => 120 | 328 => 135 | 329 => 136 | 330 => 137 | 331 => 138 | 332 => 139 | 215 => 140 | 343 => 147 | n => n,
  fun | 28 => 22 | 3 => 3 | 46 => 154 | 0 => 0 | 51 => 170 | 53 => 172 | 4 => 4 | 183 => 164 | 182 => 163 | 131 => 132 | 5 => 5 | 9 => 9 | 218 => 184 | 222 => 188 | 228 => 196 | 229 => 197 | n => n,
  fun | n => n⟩
theorem sortLays : Go.Proofs.Lays.n189 Try.prog sortLays_ren := {
  mixed := by kernel_rfl
  f125 := Try.func103.trans (congrArg some (by kernel_rfl))
  f128 := Try.func121.trans (congrArg some (by kernel_rfl))
  f129 := Try.func122.trans (congrArg some (by kernel_rfl))
  f189 := Try.func85.trans (congrArg some (by kernel_rfl))
  f215 := Try.func140.trans (congrArg some (by kernel_rfl))
  f216 := Try.func118.trans (congrArg some (by kernel_rfl))
  f257 := Try.func102.trans (congrArg some (by kernel_rfl))
  f294 := Try.func112.trans (congrArg some (by kernel_rfl))
  f295 := Try.func113.trans (congrArg some (by kernel_rfl))
  f296 := Try.func114.trans (congrArg some (by kernel_rfl))
  f297 := Try.func115.trans (congrArg some (by kernel_rfl))
  f298 := Try.func116.trans (congrArg some (by kernel_rfl))
  f299 := Try.func117.trans (congrArg some (by kernel_rfl))
  f300 := Try.func119.trans (congrArg some (by kernel_rfl))
  f301 := Try.func120.trans (congrArg some (by kernel_rfl))
  f328 := Try.func135.trans (congrArg some (by kernel_rfl))
  f329 := Try.func136.trans (congrArg some (by kernel_rfl))
  f330 := Try.func137.trans (congrArg some (by kernel_rfl))
  f331 := Try.func138.trans (congrArg some (by kernel_rfl))
  f332 := Try.func139.trans (congrArg some (by kernel_rfl))
  f343 := Try.func147.trans (congrArg some (by kernel_rfl))
  t0 := Try.underlying0
  a0 := Try.isAgg0
  z0 := Try.sizeOf0
  v0 := Try.zeroValue0
  t3 := Try.underlying3
  a3 := Try.isAgg3
  z3 := Try.sizeOf3
  v3 := Try.zeroValue3
  t4 := Try.underlying4
  a4 := Try.isAgg4
  z4 := Try.sizeOf4
  v4 := Try.zeroValue4
  t5 := Try.underlying5
  a5 := Try.isAgg5
  z5 := Try.sizeOf5
  v5 := Try.zeroValue5
  t9 := Try.underlying9
  a9 := Try.isAgg9
  z9 := Try.sizeOf9
  v9 := Try.zeroValue9
  t28 := Try.underlying22
  a28 := Try.isAgg22
  z28 := Try.sizeOf22
  v28 := Try.zeroValue22
  t46 := Try.underlying154
  a46 := Try.isAgg154
  z46 := Try.sizeOf154
  v46 := Try.zeroValue154
  t51 := Try.underlying170
  a51 := Try.isAgg170
  z51 := Try.sizeOf170
  v51 := Try.zeroValue170
  t53 := Try.underlying172
  a53 := Try.isAgg172
  z53 := Try.sizeOf172
  v53 := Try.zeroValue172
  t131 := Try.underlying132
  a131 := Try.isAgg132
  z131 := Try.sizeOf132
  v131 := Try.zeroValue132
  t182 := Try.underlying163
  a182 := Try.isAgg163
  z182 := Try.sizeOf163
  v182 := Try.zeroValue163
  t183 := Try.underlying164
  a183 := Try.isAgg164
  z183 := Try.sizeOf164
  v183 := Try.zeroValue164
  t218 := Try.underlying184
  a218 := Try.isAgg184
  z218 := Try.sizeOf184
  v218 := Try.zeroValue184
  t222 := Try.underlying188
  a222 := Try.isAgg188
  z222 := Try.sizeOf188
  v222 := Try.zeroValue188
  t228 := Try.underlying196
  a228 := Try.isAgg196
  z228 := Try.sizeOf196
  v228 := Try.zeroValue196
  t229 := Try.underlying197
  a229 := Try.isAgg197
  z229 := Try.sizeOf197
  v229 := Try.zeroValue197 }
end Go.Proofs.Ytefpmjnimnmniaa
