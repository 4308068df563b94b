/- A part of the proof. -/
import Derived.Shelf.Strings.Repeat
import Derived.Test.YteninnkbmoimgaaGreatDoorChecked
set_option linter.unusedSimpArgs false
set_option linter.unusedVariables false
/- strings.Repeat in this program: the kit's contract laid at this dump's numbers (written by the kit's own laying tool). -/
namespace Go.Proofs
open Go.Shelf
def Tryz.lays105_ren : Go.Shelf.Ren := ⟨fun | 105 => 173 | 212 => 185 | 99 => 186 | 165 => 187 | 166 => 188 | 170 => 189 | 169 => 190 | 263 => 194 | 264 => 195 | 206 => 196 | 240 => 197 | 241 => 198 | 276 => 206 | 277 => 207 | n => n, fun | 9 => 9 | 3 => 3 | 4 => 4 | 20 => 20 | 0 => 0 | 46 => 128 | 109 => 239 | 5 => 5 | 72 => 244 | 76 => 248 | 51 => 253 | 146 => 254 | 53 => 256 | 148 => 257 | 70 => 242 | 37 => 47 | 75 => 247 | 127 => 259 | 164 => 267 | 80 => 238 | n => n, fun | n => n⟩
theorem Tryz.lays105 : Go.Proofs.Lays.n105 Tryz.prog Tryz.lays105_ren := {
  mixed := by kernel_rfl
  f99 := Tryz.func186.trans (congrArg some (by kernel_rfl))
  f105 := Tryz.func173.trans (congrArg some (by kernel_rfl))
  f165 := Tryz.func187.trans (congrArg some (by kernel_rfl))
  f166 := Tryz.func188.trans (congrArg some (by kernel_rfl))
  f169 := Tryz.func190.trans (congrArg some (by kernel_rfl))
  f170 := Tryz.func189.trans (congrArg some (by kernel_rfl))
  f206 := Tryz.func196.trans (congrArg some (by kernel_rfl))
  f212 := Tryz.func185.trans (congrArg some (by kernel_rfl))
  f240 := Tryz.func197.trans (congrArg some (by kernel_rfl))
  f241 := Tryz.func198.trans (congrArg some (by kernel_rfl))
  f263 := Tryz.func194.trans (congrArg some (by kernel_rfl))
  f264 := Tryz.func195.trans (congrArg some (by kernel_rfl))
  f276 := Tryz.func206.trans (congrArg some (by kernel_rfl))
  f277 := Tryz.func207.trans (congrArg some (by kernel_rfl))
  t0 := Tryz.underlying0
  a0 := Tryz.isAgg0
  z0 := Tryz.sizeOf0
  v0 := Tryz.zeroValue0
  t3 := Tryz.underlying3
  a3 := Tryz.isAgg3
  z3 := Tryz.sizeOf3
  v3 := Tryz.zeroValue3
  t4 := Tryz.underlying4
  a4 := Tryz.isAgg4
  z4 := Tryz.sizeOf4
  v4 := Tryz.zeroValue4
  t5 := Tryz.underlying5
  a5 := Tryz.isAgg5
  z5 := Tryz.sizeOf5
  v5 := Tryz.zeroValue5
  t9 := Tryz.underlying9
  a9 := Tryz.isAgg9
  z9 := Tryz.sizeOf9
  v9 := Tryz.zeroValue9
  t20 := Tryz.underlying20
  a20 := Tryz.isAgg20
  z20 := Tryz.sizeOf20
  v20 := Tryz.zeroValue20
  t37 := Tryz.underlying47
  a37 := Tryz.isAgg47
  z37 := Tryz.sizeOf47
  v37 := Tryz.zeroValue47
  t46 := Tryz.underlying128
  a46 := Tryz.isAgg128
  z46 := Tryz.sizeOf128
  v46 := Tryz.zeroValue128
  t51 := Tryz.underlying253
  a51 := Tryz.isAgg253
  z51 := Tryz.sizeOf253
  v51 := Tryz.zeroValue253
  t53 := Tryz.underlying256
  a53 := Tryz.isAgg256
  z53 := Tryz.sizeOf256
  v53 := Tryz.zeroValue256
  t70 := Tryz.underlying242
  a70 := Tryz.isAgg242
  z70 := Tryz.sizeOf242
  v70 := Tryz.zeroValue242
  t72 := Tryz.underlying244
  a72 := Tryz.isAgg244
  z72 := Tryz.sizeOf244
  v72 := Tryz.zeroValue244
  t75 := Tryz.underlying247
  a75 := Tryz.isAgg247
  z75 := Tryz.sizeOf247
  v75 := Tryz.zeroValue247
  t76 := Tryz.underlying248
  a76 := Tryz.isAgg248
  z76 := Tryz.sizeOf248
  v76 := Tryz.zeroValue248
  t109 := Tryz.underlying239
  a109 := Tryz.isAgg239
  z109 := Tryz.sizeOf239
  v109 := Tryz.zeroValue239
  t127 := Tryz.underlying259
  a127 := Tryz.isAgg259
  z127 := Tryz.sizeOf259
  v127 := Tryz.zeroValue259
  t146 := Tryz.underlying254
  a146 := Tryz.isAgg254
  z146 := Tryz.sizeOf254
  v146 := Tryz.zeroValue254
  t148 := Tryz.underlying257
  a148 := Tryz.isAgg257
  z148 := Tryz.sizeOf257
  v148 := Tryz.zeroValue257
  t164 := Tryz.underlying267
  a164 := Tryz.isAgg267
  z164 := Tryz.sizeOf267
  v164 := Tryz.zeroValue267 }
theorem Tryz.Builder_Extra_105 : Builder.Extra Tryz.prog Tryz.lays105_ren := {
  sizeBuilder := by kernel_rfl
  liesBuilder := by kernel_rfl
  t5 := Tryz.underlying5
  a5 := Tryz.isAgg5
  z5 := Tryz.sizeOf5
  v5 := Tryz.zeroValue5
  infoByte := by kernel_rfl
  cellsByte := by kernel_rfl
  sizeByte := by kernel_rfl
  neB5 := by decide }
open Go.RowKit Go.Lib in
/-- THE MAIN CASE: at least two copies of a string that is not empty. (LAID: no walk: one application.) -/
theorem Tryz.strings_Repeat_main (s : ByteArray) (c : Nat) (w : World) (hc2 : 2 ≤ c) (hc : c ≤ 9223372036854775807) (hlen : s.size * c ≤ 140737488355328) (h0 : 0 < s.size) :
    Calls Tryz.prog 173 #[.string s, .int .i64 c] w fun e w' => e = .returned (.string ⟨(Lib.repeatL s.data.toList c).toArray⟩) ∧ Below w.heap.size w w' := Any.strings_Repeat_main Tryz.lays105 Tryz.Builder_Extra_105 s c w hc2 hc hlen h0
open Go.RowKit Go.Lib in
theorem Tryz.strings_Repeat_zero (s : ByteArray) (w : World) :
    Calls Tryz.prog 173 #[.string s, .int .i64 0] w fun e w' => e = .returned (.string ⟨#[]⟩) ∧ w' = w := Any.strings_Repeat_zero Tryz.lays105 s w
open Go.RowKit Go.Lib in
theorem Tryz.strings_Repeat_one (s : ByteArray) (w : World) :
    Calls Tryz.prog 173 #[.string s, .int .i64 1] w fun e w' => e = .returned (.string s) ∧ w' = w := Any.strings_Repeat_one Tryz.lays105 s w
end Go.Proofs
