/- strings.Repeat in this program: the kit's contract laid at this dump's numbers (written by the kit's own laying tool). -/
import Derived.Shelf.Strings.Repeat
import Derived.Test.YtolmoknjmdmpgaaGreatChecked
namespace Go.Proofs
open Go.Shelf
def Tryz.lays105_ren : Go.Shelf.Ren := ⟨fun | 105 => 85 | 212 => 95 | 99 => 96 | 165 => 97 | 166 => 98 | 170 => 99 | 169 => 100 | 263 => 113 | 264 => 114 | 206 => 115 | 240 => 116 | 241 => 117 | 276 => 124 | 277 => 125 | n => n, fun | 9 => 9 | 3 => 3 | 4 => 4 | 20 => 20 | 0 => 0 | 46 => 138 | 109 => 146 | 5 => 5 | 72 => 151 | 76 => 155 | 51 => 167 | 146 => 172 | 53 => 169 | 148 => 174 | 70 => 149 | 37 => 112 | 75 => 154 | 127 => 176 | 164 => 183 | 80 => 157 | n => n, fun | n => n⟩
theorem Tryz.lays105 : Go.Proofs.Lays.n105 Tryz.prog Tryz.lays105_ren := {
  mixed := by kernel_rfl
  f99 := Tryz.func96.trans (congrArg some (by kernel_rfl))
  f105 := Tryz.func85.trans (congrArg some (by kernel_rfl))
  f165 := Tryz.func97.trans (congrArg some (by kernel_rfl))
  f166 := Tryz.func98.trans (congrArg some (by kernel_rfl))
  f169 := Tryz.func100.trans (congrArg some (by kernel_rfl))
  f170 := Tryz.func99.trans (congrArg some (by kernel_rfl))
  f206 := Tryz.func115.trans (congrArg some (by kernel_rfl))
  f212 := Tryz.func95.trans (congrArg some (by kernel_rfl))
  f240 := Tryz.func116.trans (congrArg some (by kernel_rfl))
  f241 := Tryz.func117.trans (congrArg some (by kernel_rfl))
  f263 := Tryz.func113.trans (congrArg some (by kernel_rfl))
  f264 := Tryz.func114.trans (congrArg some (by kernel_rfl))
  f276 := Tryz.func124.trans (congrArg some (by kernel_rfl))
  f277 := Tryz.func125.trans (congrArg some (by kernel_rfl))
  t0 := Tryz.underlying0
  a0 := Tryz.isAgg0
  z0 := Tryz.sizeOf0
  v0 := Tryz.zeroValue0
  t3 := Tryz.underlying3
  a3 := Tryz.isAgg3
  z3 := Tryz.sizeOf3
  v3 := Tryz.zeroValue3
  t4 := Tryz.underlying4
  a4 := Tryz.isAgg4
  z4 := Tryz.sizeOf4
  v4 := Tryz.zeroValue4
  t5 := Tryz.underlying5
  a5 := Tryz.isAgg5
  z5 := Tryz.sizeOf5
  v5 := Tryz.zeroValue5
  t9 := Tryz.underlying9
  a9 := Tryz.isAgg9
  z9 := Tryz.sizeOf9
  v9 := Tryz.zeroValue9
  t20 := Tryz.underlying20
  a20 := Tryz.isAgg20
  z20 := Tryz.sizeOf20
  v20 := Tryz.zeroValue20
  t37 := Tryz.underlying112
  a37 := Tryz.isAgg112
  z37 := Tryz.sizeOf112
  v37 := Tryz.zeroValue112
  t46 := Tryz.underlying138
  a46 := Tryz.isAgg138
  z46 := Tryz.sizeOf138
  v46 := Tryz.zeroValue138
  t51 := Tryz.underlying167
  a51 := Tryz.isAgg167
  z51 := Tryz.sizeOf167
  v51 := Tryz.zeroValue167
  t53 := Tryz.underlying169
  a53 := Tryz.isAgg169
  z53 := Tryz.sizeOf169
  v53 := Tryz.zeroValue169
  t70 := Tryz.underlying149
  a70 := Tryz.isAgg149
  z70 := Tryz.sizeOf149
  v70 := Tryz.zeroValue149
  t72 := Tryz.underlying151
  a72 := Tryz.isAgg151
  z72 := Tryz.sizeOf151
  v72 := Tryz.zeroValue151
  t75 := Tryz.underlying154
  a75 := Tryz.isAgg154
  z75 := Tryz.sizeOf154
  v75 := Tryz.zeroValue154
  t76 := Tryz.underlying155
  a76 := Tryz.isAgg155
  z76 := Tryz.sizeOf155
  v76 := Tryz.zeroValue155
  t109 := Tryz.underlying146
  a109 := Tryz.isAgg146
  z109 := Tryz.sizeOf146
  v109 := Tryz.zeroValue146
  t127 := Tryz.underlying176
  a127 := Tryz.isAgg176
  z127 := Tryz.sizeOf176
  v127 := Tryz.zeroValue176
  t146 := Tryz.underlying172
  a146 := Tryz.isAgg172
  z146 := Tryz.sizeOf172
  v146 := Tryz.zeroValue172
  t148 := Tryz.underlying174
  a148 := Tryz.isAgg174
  z148 := Tryz.sizeOf174
  v148 := Tryz.zeroValue174
  t164 := Tryz.underlying183
  a164 := Tryz.isAgg183
  z164 := Tryz.sizeOf183
  v164 := Tryz.zeroValue183 }
theorem Tryz.Builder_Extra_105 : Builder.Extra Tryz.prog Tryz.lays105_ren := {
  sizeBuilder := by kernel_rfl
  liesBuilder := by kernel_rfl
  t5 := Tryz.underlying5
  a5 := Tryz.isAgg5
  z5 := Tryz.sizeOf5
  v5 := Tryz.zeroValue5
  infoByte := by kernel_rfl
  cellsByte := by kernel_rfl
  sizeByte := by kernel_rfl
  neB5 := by decide }
open Go.RowKit Go.Lib in
/-- THE MAIN CASE: at least two copies of a string that is not empty. (LAID: no walk: one application.) -/
theorem Tryz.strings_Repeat_main (s : ByteArray) (c : Nat) (w : World) (hc2 : 2 ≤ c) (hc : c ≤ 9223372036854775807) (hlen : s.size * c ≤ 140737488355328) (h0 : 0 < s.size) :
    Calls Tryz.prog 85 #[.string s, .int .i64 c] w fun e w' => e = .returned (.string ⟨(Lib.repeatL s.data.toList c).toArray⟩) ∧ Below w.heap.size w w' := Any.strings_Repeat_main Tryz.lays105 Tryz.Builder_Extra_105 s c w hc2 hc hlen h0
open Go.RowKit Go.Lib in
theorem Tryz.strings_Repeat_zero (s : ByteArray) (w : World) :
    Calls Tryz.prog 85 #[.string s, .int .i64 0] w fun e w' => e = .returned (.string ⟨#[]⟩) ∧ w' = w := Any.strings_Repeat_zero Tryz.lays105 s w
open Go.RowKit Go.Lib in
theorem Tryz.strings_Repeat_one (s : ByteArray) (w : World) :
    Calls Tryz.prog 85 #[.string s, .int .i64 1] w fun e w' => e = .returned (.string s) ∧ w' = w := Any.strings_Repeat_one Tryz.lays105 s w
end Go.Proofs
