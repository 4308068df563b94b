/- strings.Repeat in this program: the kit's contract laid at this dump's numbers (written by the kit's own laying tool). -/
import Derived.Shelf.Strings.Repeat
import Derived.Test.YtjgdhlpnpihkdaaDoorChecked
namespace Go.Proofs
open Go.Shelf
def Tryd.lays105_ren : Go.Shelf.Ren := ⟨fun | 105 => 119 | 212 => 124 | 99 => 125 | 165 => 126 | 166 => 127 | 170 => 128 | 169 => 129 | 263 => 131 | 264 => 132 | 206 => 133 | 240 => 134 | 241 => 135 | 276 => 143 | 277 => 144 | n => n, fun | 9 => 9 | 3 => 3 | 4 => 4 | 20 => 20 | 0 => 0 | 46 => 181 | 109 => 182 | 5 => 5 | 72 => 187 | 76 => 191 | 51 => 195 | 146 => 196 | 53 => 198 | 148 => 199 | 70 => 185 | 37 => 70 | 75 => 190 | 127 => 201 | 164 => 209 | 80 => 156 | n => n, fun | n => n⟩
theorem Tryd.lays105 : Go.Proofs.Lays.n105 Tryd.prog Tryd.lays105_ren := {
  mixed := by kernel_rfl
  f99 := Tryd.func125.trans (congrArg some (by kernel_rfl))
  f105 := Tryd.func119.trans (congrArg some (by kernel_rfl))
  f165 := Tryd.func126.trans (congrArg some (by kernel_rfl))
  f166 := Tryd.func127.trans (congrArg some (by kernel_rfl))
  f169 := Tryd.func129.trans (congrArg some (by kernel_rfl))
  f170 := Tryd.func128.trans (congrArg some (by kernel_rfl))
  f206 := Tryd.func133.trans (congrArg some (by kernel_rfl))
  f212 := Tryd.func124.trans (congrArg some (by kernel_rfl))
  f240 := Tryd.func134.trans (congrArg some (by kernel_rfl))
  f241 := Tryd.func135.trans (congrArg some (by kernel_rfl))
  f263 := Tryd.func131.trans (congrArg some (by kernel_rfl))
  f264 := Tryd.func132.trans (congrArg some (by kernel_rfl))
  f276 := Tryd.func143.trans (congrArg some (by kernel_rfl))
  f277 := Tryd.func144.trans (congrArg some (by kernel_rfl))
  t0 := Tryd.underlying0
  a0 := Tryd.isAgg0
  z0 := Tryd.sizeOf0
  v0 := Tryd.zeroValue0
  t3 := Tryd.underlying3
  a3 := Tryd.isAgg3
  z3 := Tryd.sizeOf3
  v3 := Tryd.zeroValue3
  t4 := Tryd.underlying4
  a4 := Tryd.isAgg4
  z4 := Tryd.sizeOf4
  v4 := Tryd.zeroValue4
  t5 := Tryd.underlying5
  a5 := Tryd.isAgg5
  z5 := Tryd.sizeOf5
  v5 := Tryd.zeroValue5
  t9 := Tryd.underlying9
  a9 := Tryd.isAgg9
  z9 := Tryd.sizeOf9
  v9 := Tryd.zeroValue9
  t20 := Tryd.underlying20
  a20 := Tryd.isAgg20
  z20 := Tryd.sizeOf20
  v20 := Tryd.zeroValue20
  t37 := Tryd.underlying70
  a37 := Tryd.isAgg70
  z37 := Tryd.sizeOf70
  v37 := Tryd.zeroValue70
  t46 := Tryd.underlying181
  a46 := Tryd.isAgg181
  z46 := Tryd.sizeOf181
  v46 := Tryd.zeroValue181
  t51 := Tryd.underlying195
  a51 := Tryd.isAgg195
  z51 := Tryd.sizeOf195
  v51 := Tryd.zeroValue195
  t53 := Tryd.underlying198
  a53 := Tryd.isAgg198
  z53 := Tryd.sizeOf198
  v53 := Tryd.zeroValue198
  t70 := Tryd.underlying185
  a70 := Tryd.isAgg185
  z70 := Tryd.sizeOf185
  v70 := Tryd.zeroValue185
  t72 := Tryd.underlying187
  a72 := Tryd.isAgg187
  z72 := Tryd.sizeOf187
  v72 := Tryd.zeroValue187
  t75 := Tryd.underlying190
  a75 := Tryd.isAgg190
  z75 := Tryd.sizeOf190
  v75 := Tryd.zeroValue190
  t76 := Tryd.underlying191
  a76 := Tryd.isAgg191
  z76 := Tryd.sizeOf191
  v76 := Tryd.zeroValue191
  t109 := Tryd.underlying182
  a109 := Tryd.isAgg182
  z109 := Tryd.sizeOf182
  v109 := Tryd.zeroValue182
  t127 := Tryd.underlying201
  a127 := Tryd.isAgg201
  z127 := Tryd.sizeOf201
  v127 := Tryd.zeroValue201
  t146 := Tryd.underlying196
  a146 := Tryd.isAgg196
  z146 := Tryd.sizeOf196
  v146 := Tryd.zeroValue196
  t148 := Tryd.underlying199
  a148 := Tryd.isAgg199
  z148 := Tryd.sizeOf199
  v148 := Tryd.zeroValue199
  t164 := Tryd.underlying209
  a164 := Tryd.isAgg209
  z164 := Tryd.sizeOf209
  v164 := Tryd.zeroValue209 }
theorem Tryd.Builder_Extra_105 : Builder.Extra Tryd.prog Tryd.lays105_ren := {
  sizeBuilder := by kernel_rfl
  liesBuilder := by kernel_rfl
  t5 := Tryd.underlying5
  a5 := Tryd.isAgg5
  z5 := Tryd.sizeOf5
  v5 := Tryd.zeroValue5
  infoByte := by kernel_rfl
  cellsByte := by kernel_rfl
  sizeByte := by kernel_rfl
  neB5 := by decide }
open Go.RowKit Go.Lib in
/-- THE MAIN CASE: at least two copies of a string that is not empty. (LAID: no walk: one application.) -/
theorem Tryd.strings_Repeat_main (s : ByteArray) (c : Nat) (w : World) (hc2 : 2 ≤ c) (hc : c ≤ 9223372036854775807) (hlen : s.size * c ≤ 140737488355328) (h0 : 0 < s.size) :
    Calls Tryd.prog 119 #[.string s, .int .i64 c] w fun e w' => e = .returned (.string ⟨(Lib.repeatL s.data.toList c).toArray⟩) ∧ Below w.heap.size w w' := Any.strings_Repeat_main Tryd.lays105 Tryd.Builder_Extra_105 s c w hc2 hc hlen h0
open Go.RowKit Go.Lib in
theorem Tryd.strings_Repeat_zero (s : ByteArray) (w : World) :
    Calls Tryd.prog 119 #[.string s, .int .i64 0] w fun e w' => e = .returned (.string ⟨#[]⟩) ∧ w' = w := Any.strings_Repeat_zero Tryd.lays105 s w
open Go.RowKit Go.Lib in
theorem Tryd.strings_Repeat_one (s : ByteArray) (w : World) :
    Calls Tryd.prog 119 #[.string s, .int .i64 1] w fun e w' => e = .returned (.string s) ∧ w' = w := Any.strings_Repeat_one Tryd.lays105 s w
end Go.Proofs
