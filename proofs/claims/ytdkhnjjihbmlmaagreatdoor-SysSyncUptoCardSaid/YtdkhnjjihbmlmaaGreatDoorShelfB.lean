import Derived.Shelf.Strings.Builder1
import Derived.Shelf.Strings.Builder2
import Derived.Shelf.Strings.BuilderF
import Derived.Shelf.Strings.Repeat
import Derived.Shelf.Small.Strs
import Derived.Test.YtdkhnjjihbmlmaaGreatDoorProg
namespace Go.Proofs
open Go.Shelf
open Go.RowKit in
def Tryz.lays169_ren : Go.Shelf.Ren:=⟨fun | 169 => 77 | n => n,fun | 70 => 117 | 9 => 9 | 0 => 0 | 72 => 119 | 37 => 89 | 127 => 187 | 3 => 3 | 5 => 5 | n => n,fun | n => n⟩
theorem Tryz.lays169 : Go.Proofs.Lays.n169 Tryz.prog Tryz.lays169_ren:={
 mixed:=by kernel_rfl
 f169:=Tryz.func77.trans (congrArg some (by kernel_rfl))
 t0:=Tryz.underlying0
 a0:=Tryz.isAgg0
 z0:=Tryz.sizeOf0
 v0:=Tryz.zeroValue0
 t3:=Tryz.underlying3
 a3:=Tryz.isAgg3
 z3:=Tryz.sizeOf3
 v3:=Tryz.zeroValue3
 t9:=Tryz.underlying9
 a9:=Tryz.isAgg9
 z9:=Tryz.sizeOf9
 v9:=Tryz.zeroValue9
 t37:=Tryz.underlying89
 a37:=Tryz.isAgg89
 z37:=Tryz.sizeOf89
 v37:=Tryz.zeroValue89
 t70:=Tryz.underlying117
 a70:=Tryz.isAgg117
 z70:=Tryz.sizeOf117
 v70:=Tryz.zeroValue117
 t72:=Tryz.underlying119
 a72:=Tryz.isAgg119
 z72:=Tryz.sizeOf119
 v72:=Tryz.zeroValue119
 t127:=Tryz.underlying187
 a127:=Tryz.isAgg187
 z127:=Tryz.sizeOf187
 v127:=Tryz.zeroValue187 }
theorem Tryz.Builder_Extra_169 : Builder.Extra Tryz.prog Tryz.lays169_ren:={
 sizeBuilder:=by kernel_rfl
 liesBuilder:=by kernel_rfl
 t5:=Tryz.underlying5
 a5:=Tryz.isAgg5
 z5:=Tryz.sizeOf5
 v5:=Tryz.zeroValue5
 infoByte:=by kernel_rfl
 cellsByte:=by kernel_rfl
 sizeByte:=by kernel_rfl
 neB5:=by decide }
open Go.RowKit in
open Go.RowKit in
open Go.RowKit in
open Go.RowKit in
open Go.RowKit in
open Go.RowKit in
def Tryz.lays105_ren : Go.Shelf.Ren:=⟨fun | 105 => 38 | 212 => 72 | 99 => 73 | 165 => 74 | 166 => 75 | 170 => 76 | 169 => 77 | 263 => 119 | 264 => 120 | 206 => 121 | 240 => 122 | 241 => 123 | 276 => 174 | 277 => 175 | n => n,fun | 9 => 9 | 3 => 3 | 4 => 4 | 20 => 20 | 0 => 0 | 46 => 105 | 109 => 114 | 5 => 5 | 72 => 119 | 76 => 123 | 51 => 36 | 146 => 183 | 53 => 22 | 148 => 185 | 70 => 117 | 37 => 89 | 75 => 122 | 127 => 187 | 164 => 239 | 80 => 126 | n => n,fun | n => n⟩
theorem Tryz.lays105 : Go.Proofs.Lays.n105 Tryz.prog Tryz.lays105_ren:={
 mixed:=by kernel_rfl
 f99:=Tryz.func73.trans (congrArg some (by kernel_rfl))
 f105:=Tryz.func38.trans (congrArg some (by kernel_rfl))
 f165:=Tryz.func74.trans (congrArg some (by kernel_rfl))
 f166:=Tryz.func75.trans (congrArg some (by kernel_rfl))
 f169:=Tryz.func77.trans (congrArg some (by kernel_rfl))
 f170:=Tryz.func76.trans (congrArg some (by kernel_rfl))
 f206:=Tryz.func121.trans (congrArg some (by kernel_rfl))
 f212:=Tryz.func72.trans (congrArg some (by kernel_rfl))
 f240:=Tryz.func122.trans (congrArg some (by kernel_rfl))
 f241:=Tryz.func123.trans (congrArg some (by kernel_rfl))
 f263:=Tryz.func119.trans (congrArg some (by kernel_rfl))
 f264:=Tryz.func120.trans (congrArg some (by kernel_rfl))
 f276:=Tryz.func174.trans (congrArg some (by kernel_rfl))
 f277:=Tryz.func175.trans (congrArg some (by kernel_rfl))
 t0:=Tryz.underlying0
 a0:=Tryz.isAgg0
 z0:=Tryz.sizeOf0
 v0:=Tryz.zeroValue0
 t3:=Tryz.underlying3
 a3:=Tryz.isAgg3
 z3:=Tryz.sizeOf3
 v3:=Tryz.zeroValue3
 t4:=Tryz.underlying4
 a4:=Tryz.isAgg4
 z4:=Tryz.sizeOf4
 v4:=Tryz.zeroValue4
 t5:=Tryz.underlying5
 a5:=Tryz.isAgg5
 z5:=Tryz.sizeOf5
 v5:=Tryz.zeroValue5
 t9:=Tryz.underlying9
 a9:=Tryz.isAgg9
 z9:=Tryz.sizeOf9
 v9:=Tryz.zeroValue9
 t20:=Tryz.underlying20
 a20:=Tryz.isAgg20
 z20:=Tryz.sizeOf20
 v20:=Tryz.zeroValue20
 t37:=Tryz.underlying89
 a37:=Tryz.isAgg89
 z37:=Tryz.sizeOf89
 v37:=Tryz.zeroValue89
 t46:=Tryz.underlying105
 a46:=Tryz.isAgg105
 z46:=Tryz.sizeOf105
 v46:=Tryz.zeroValue105
 t51:=Tryz.underlying36
 a51:=Tryz.isAgg36
 z51:=Tryz.sizeOf36
 v51:=Tryz.zeroValue36
 t53:=Tryz.underlying22
 a53:=Tryz.isAgg22
 z53:=Tryz.sizeOf22
 v53:=Tryz.zeroValue22
 t70:=Tryz.underlying117
 a70:=Tryz.isAgg117
 z70:=Tryz.sizeOf117
 v70:=Tryz.zeroValue117
 t72:=Tryz.underlying119
 a72:=Tryz.isAgg119
 z72:=Tryz.sizeOf119
 v72:=Tryz.zeroValue119
 t75:=Tryz.underlying122
 a75:=Tryz.isAgg122
 z75:=Tryz.sizeOf122
 v75:=Tryz.zeroValue122
 t76:=Tryz.underlying123
 a76:=Tryz.isAgg123
 z76:=Tryz.sizeOf123
 v76:=Tryz.zeroValue123
 t109:=Tryz.underlying114
 a109:=Tryz.isAgg114
 z109:=Tryz.sizeOf114
 v109:=Tryz.zeroValue114
 t127:=Tryz.underlying187
 a127:=Tryz.isAgg187
 z127:=Tryz.sizeOf187
 v127:=Tryz.zeroValue187
 t146:=Tryz.underlying183
 a146:=Tryz.isAgg183
 z146:=Tryz.sizeOf183
 v146:=Tryz.zeroValue183
 t148:=Tryz.underlying185
 a148:=Tryz.isAgg185
 z148:=Tryz.sizeOf185
 v148:=Tryz.zeroValue185
 t164:=Tryz.underlying239
 a164:=Tryz.isAgg239
 z164:=Tryz.sizeOf239
 v164:=Tryz.zeroValue239 }
theorem Tryz.Builder_Extra_105 : Builder.Extra Tryz.prog Tryz.lays105_ren:={
 sizeBuilder:=by kernel_rfl
 liesBuilder:=by kernel_rfl
 t5:=Tryz.underlying5
 a5:=Tryz.isAgg5
 z5:=Tryz.sizeOf5
 v5:=Tryz.zeroValue5
 infoByte:=by kernel_rfl
 cellsByte:=by kernel_rfl
 sizeByte:=by kernel_rfl
 neB5:=by decide }
open Go.RowKit Go.Lib in
open Go.RowKit Go.Lib in
open Go.RowKit Go.Lib in
open Go.RowKit Go.Lib in
open Go.RowKit Go.Lib in
open Go.RowKit Go.Lib in
open Go.RowKit Go.Lib in
theorem Tryz.strings_Repeat (s : ByteArray) (c : Nat) (w : World) (hc : c ≤ 9223372036854775807) (hlen : s.size * c ≤ 140737488355328) :
  Calls Tryz.prog 38 #[.string s,.int .i64 c] w fun e w' => e = .returned (.string ⟨(Lib.repeatL s.data.toList c).toArray⟩) ∧ Below w.heap.size w w':=Any.strings_Repeat Tryz.lays105 Tryz.Builder_Extra_105 s c w hc hlen
end Go.Proofs
