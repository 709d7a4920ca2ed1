import Derived.Shelf.Strings.Builder1
import Derived.Shelf.Strings.Builder2
import Derived.Shelf.Strings.BuilderF
import Derived.Shelf.Strings.Repeat
import Derived.Shelf.Small.Strs
import Derived.Test.YtdlnmdbonagchaaGreatDoorProg
namespace Go.Proofs
open Go.Shelf
open Go.RowKit in
def Tryz.lays169_ren : Go.Shelf.Ren:=⟨fun | 169 => 53 | n => n,fun | 70 => 96 | 9 => 9 | 0 => 0 | 72 => 98 | 37 => 57 | 127 => 135 | 3 => 3 | 5 => 5 | n => n,fun | n => n⟩
theorem Tryz.lays169 : Go.Proofs.Lays.n169 Tryz.prog Tryz.lays169_ren:={
 mixed:=by kernel_rfl
 f169:=Tryz.func53.trans (congrArg some (by kernel_rfl))
 t0:=Tryz.underlying0
 a0:=Tryz.isAgg0
 z0:=Tryz.sizeOf0
 v0:=Tryz.zeroValue0
 t3:=Tryz.underlying3
 a3:=Tryz.isAgg3
 z3:=Tryz.sizeOf3
 v3:=Tryz.zeroValue3
 t9:=Tryz.underlying9
 a9:=Tryz.isAgg9
 z9:=Tryz.sizeOf9
 v9:=Tryz.zeroValue9
 t37:=Tryz.underlying57
 a37:=Tryz.isAgg57
 z37:=Tryz.sizeOf57
 v37:=Tryz.zeroValue57
 t70:=Tryz.underlying96
 a70:=Tryz.isAgg96
 z70:=Tryz.sizeOf96
 v70:=Tryz.zeroValue96
 t72:=Tryz.underlying98
 a72:=Tryz.isAgg98
 z72:=Tryz.sizeOf98
 v72:=Tryz.zeroValue98
 t127:=Tryz.underlying135
 a127:=Tryz.isAgg135
 z127:=Tryz.sizeOf135
 v127:=Tryz.zeroValue135 }
theorem Tryz.Builder_Extra_169 : Builder.Extra Tryz.prog Tryz.lays169_ren:={
 sizeBuilder:=by kernel_rfl
 liesBuilder:=by kernel_rfl
 t5:=Tryz.underlying5
 a5:=Tryz.isAgg5
 z5:=Tryz.sizeOf5
 v5:=Tryz.zeroValue5
 infoByte:=by kernel_rfl
 cellsByte:=by kernel_rfl
 sizeByte:=by kernel_rfl
 neB5:=by decide }
open Go.RowKit in
open Go.RowKit in
open Go.RowKit in
theorem Tryz.Builder_String_any (B b : Nat) (l : List UInt8) (w : World) (h : Lib.IsBuilder 98 5 B b (Lib.byteCells l) w) (hBw : B ≤ w.heap.size) :
 Calls Tryz.prog 53 #[.pointer (some ⟨b,0,none⟩)] w fun e w' => e = .returned (.string ⟨l.toArray⟩) ∧ Below B w w':=Any.Builder_String_any Tryz.lays169 Tryz.Builder_Extra_169 B b l w h hBw
open Go.RowKit in
def Tryz.lays165_ren : Go.Shelf.Ren:=⟨fun | 165 => 50 | 240 => 83 | 241 => 84 | 276 => 108 | 277 => 109 | n => n,fun | 70 => 96 | 3 => 3 | 0 => 0 | 4 => 4 | 9 => 9 | 20 => 20 | 72 => 98 | 37 => 57 | 164 => 177 | 5 => 5 | n => n,fun | n => n⟩
theorem Tryz.lays165 : Go.Proofs.Lays.n165 Tryz.prog Tryz.lays165_ren:={
 mixed:=by kernel_rfl
 f165:=Tryz.func50.trans (congrArg some (by kernel_rfl))
 f240:=Tryz.func83.trans (congrArg some (by kernel_rfl))
 f241:=Tryz.func84.trans (congrArg some (by kernel_rfl))
 f276:=Tryz.func108.trans (congrArg some (by kernel_rfl))
 f277:=Tryz.func109.trans (congrArg some (by kernel_rfl))
 t0:=Tryz.underlying0
 a0:=Tryz.isAgg0
 z0:=Tryz.sizeOf0
 v0:=Tryz.zeroValue0
 t3:=Tryz.underlying3
 a3:=Tryz.isAgg3
 z3:=Tryz.sizeOf3
 v3:=Tryz.zeroValue3
 t4:=Tryz.underlying4
 a4:=Tryz.isAgg4
 z4:=Tryz.sizeOf4
 v4:=Tryz.zeroValue4
 t9:=Tryz.underlying9
 a9:=Tryz.isAgg9
 z9:=Tryz.sizeOf9
 v9:=Tryz.zeroValue9
 t20:=Tryz.underlying20
 a20:=Tryz.isAgg20
 z20:=Tryz.sizeOf20
 v20:=Tryz.zeroValue20
 t37:=Tryz.underlying57
 a37:=Tryz.isAgg57
 z37:=Tryz.sizeOf57
 v37:=Tryz.zeroValue57
 t70:=Tryz.underlying96
 a70:=Tryz.isAgg96
 z70:=Tryz.sizeOf96
 v70:=Tryz.zeroValue96
 t72:=Tryz.underlying98
 a72:=Tryz.isAgg98
 z72:=Tryz.sizeOf98
 v72:=Tryz.zeroValue98
 t164:=Tryz.underlying177
 a164:=Tryz.isAgg177
 z164:=Tryz.sizeOf177
 v164:=Tryz.zeroValue177 }
theorem Tryz.Builder_Extra_165 : Builder.Extra Tryz.prog Tryz.lays165_ren:={
 sizeBuilder:=by kernel_rfl
 liesBuilder:=by kernel_rfl
 t5:=Tryz.underlying5
 a5:=Tryz.isAgg5
 z5:=Tryz.sizeOf5
 v5:=Tryz.zeroValue5
 infoByte:=by kernel_rfl
 cellsByte:=by kernel_rfl
 sizeByte:=by kernel_rfl
 neB5:=by decide }
open Go.RowKit in
theorem Tryz.Builder_Grow_fresh (B b n : Nat) (w : World) (hB : B ≤ b) (hbk : w.heap[b]? = some (.cells #[.pointer none,.slice none 0 0] 98 (0,0))) (hBw : B ≤ w.heap.size) (hn : n ≤ 281474976710656) :
 Calls Tryz.prog 50 #[.pointer (some ⟨b,0,none⟩),.int .i64 n] w fun e w' => e = .returned (.tuple #[]) ∧ (Lib.BuilderAt 98 5 B b (.pointer (some ⟨b,0,none⟩)) [] w' ∧ Below B w w'):=Any.Builder_Grow_fresh Tryz.lays165 Tryz.Builder_Extra_165 B b n w hB hbk hBw hn
def Tryz.lays137_ren : Go.Shelf.Ren:=⟨fun | 137 => 321 | 217 => 361 | 266 => 385 | n => n,fun | 9 => 9 | 5 => 5 | 3 => 3 | n => n,fun | n => n⟩
theorem Tryz.lays137 : Go.Proofs.Lays.n137 Tryz.prog Tryz.lays137_ren:={
 mixed:=by kernel_rfl
 f137:=Tryz.func321.trans (congrArg some (by kernel_rfl))
 f217:=Tryz.func361.trans (congrArg some (by kernel_rfl))
 f266:=Tryz.func385.trans (congrArg some (by kernel_rfl))
 t3:=Tryz.underlying3
 a3:=Tryz.isAgg3
 z3:=Tryz.sizeOf3
 v3:=Tryz.zeroValue3
 t5:=Tryz.underlying5
 a5:=Tryz.isAgg5
 z5:=Tryz.sizeOf5
 v5:=Tryz.zeroValue5
 t9:=Tryz.underlying9
 a9:=Tryz.isAgg9
 z9:=Tryz.sizeOf9
 v9:=Tryz.zeroValue9 }
open Go.RowKit in
theorem Tryz.strings_IndexByte (s : ByteArray) (c : Int) (w : World) :
 Calls Tryz.prog 321 #[.string s,.int .u8 c] w fun e w' => e = .returned (.int .i64 (Lib.indexByte s.data.toList c.toNat.toUInt8)) ∧ w' = w:=Any.strings_IndexByte Tryz.lays137 s c w
open Go.RowKit in
open Go.RowKit in
open Go.RowKit in
open Go.RowKit in
def Tryz.lays105_ren : Go.Shelf.Ren:=⟨fun | 105 => 36 | 212 => 66 | 99 => 67 | 165 => 50 | 166 => 52 | 170 => 68 | 169 => 53 | 263 => 89 | 264 => 90 | 206 => 91 | 240 => 83 | 241 => 84 | 276 => 108 | 277 => 109 | n => n,fun | 9 => 9 | 3 => 3 | 4 => 4 | 20 => 20 | 0 => 0 | 46 => 103 | 109 => 120 | 5 => 5 | 72 => 98 | 76 => 104 | 51 => 138 | 146 => 139 | 53 => 37 | 148 => 141 | 70 => 96 | 37 => 57 | 75 => 101 | 127 => 135 | 164 => 177 | 80 => 106 | n => n,fun | n => n⟩
theorem Tryz.lays105 : Go.Proofs.Lays.n105 Tryz.prog Tryz.lays105_ren:={
 mixed:=by kernel_rfl
 f99:=Tryz.func67.trans (congrArg some (by kernel_rfl))
 f105:=Tryz.func36.trans (congrArg some (by kernel_rfl))
 f165:=Tryz.func50.trans (congrArg some (by kernel_rfl))
 f166:=Tryz.func52.trans (congrArg some (by kernel_rfl))
 f169:=Tryz.func53.trans (congrArg some (by kernel_rfl))
 f170:=Tryz.func68.trans (congrArg some (by kernel_rfl))
 f206:=Tryz.func91.trans (congrArg some (by kernel_rfl))
 f212:=Tryz.func66.trans (congrArg some (by kernel_rfl))
 f240:=Tryz.func83.trans (congrArg some (by kernel_rfl))
 f241:=Tryz.func84.trans (congrArg some (by kernel_rfl))
 f263:=Tryz.func89.trans (congrArg some (by kernel_rfl))
 f264:=Tryz.func90.trans (congrArg some (by kernel_rfl))
 f276:=Tryz.func108.trans (congrArg some (by kernel_rfl))
 f277:=Tryz.func109.trans (congrArg some (by kernel_rfl))
 t0:=Tryz.underlying0
 a0:=Tryz.isAgg0
 z0:=Tryz.sizeOf0
 v0:=Tryz.zeroValue0
 t3:=Tryz.underlying3
 a3:=Tryz.isAgg3
 z3:=Tryz.sizeOf3
 v3:=Tryz.zeroValue3
 t4:=Tryz.underlying4
 a4:=Tryz.isAgg4
 z4:=Tryz.sizeOf4
 v4:=Tryz.zeroValue4
 t5:=Tryz.underlying5
 a5:=Tryz.isAgg5
 z5:=Tryz.sizeOf5
 v5:=Tryz.zeroValue5
 t9:=Tryz.underlying9
 a9:=Tryz.isAgg9
 z9:=Tryz.sizeOf9
 v9:=Tryz.zeroValue9
 t20:=Tryz.underlying20
 a20:=Tryz.isAgg20
 z20:=Tryz.sizeOf20
 v20:=Tryz.zeroValue20
 t37:=Tryz.underlying57
 a37:=Tryz.isAgg57
 z37:=Tryz.sizeOf57
 v37:=Tryz.zeroValue57
 t46:=Tryz.underlying103
 a46:=Tryz.isAgg103
 z46:=Tryz.sizeOf103
 v46:=Tryz.zeroValue103
 t51:=Tryz.underlying138
 a51:=Tryz.isAgg138
 z51:=Tryz.sizeOf138
 v51:=Tryz.zeroValue138
 t53:=Tryz.underlying37
 a53:=Tryz.isAgg37
 z53:=Tryz.sizeOf37
 v53:=Tryz.zeroValue37
 t70:=Tryz.underlying96
 a70:=Tryz.isAgg96
 z70:=Tryz.sizeOf96
 v70:=Tryz.zeroValue96
 t72:=Tryz.underlying98
 a72:=Tryz.isAgg98
 z72:=Tryz.sizeOf98
 v72:=Tryz.zeroValue98
 t75:=Tryz.underlying101
 a75:=Tryz.isAgg101
 z75:=Tryz.sizeOf101
 v75:=Tryz.zeroValue101
 t76:=Tryz.underlying104
 a76:=Tryz.isAgg104
 z76:=Tryz.sizeOf104
 v76:=Tryz.zeroValue104
 t109:=Tryz.underlying120
 a109:=Tryz.isAgg120
 z109:=Tryz.sizeOf120
 v109:=Tryz.zeroValue120
 t127:=Tryz.underlying135
 a127:=Tryz.isAgg135
 z127:=Tryz.sizeOf135
 v127:=Tryz.zeroValue135
 t146:=Tryz.underlying139
 a146:=Tryz.isAgg139
 z146:=Tryz.sizeOf139
 v146:=Tryz.zeroValue139
 t148:=Tryz.underlying141
 a148:=Tryz.isAgg141
 z148:=Tryz.sizeOf141
 v148:=Tryz.zeroValue141
 t164:=Tryz.underlying177
 a164:=Tryz.isAgg177
 z164:=Tryz.sizeOf177
 v164:=Tryz.zeroValue177 }
theorem Tryz.Builder_Extra_105 : Builder.Extra Tryz.prog Tryz.lays105_ren:={
 sizeBuilder:=by kernel_rfl
 liesBuilder:=by kernel_rfl
 t5:=Tryz.underlying5
 a5:=Tryz.isAgg5
 z5:=Tryz.sizeOf5
 v5:=Tryz.zeroValue5
 infoByte:=by kernel_rfl
 cellsByte:=by kernel_rfl
 sizeByte:=by kernel_rfl
 neB5:=by decide }
open Go.RowKit Go.Lib in
open Go.RowKit Go.Lib in
open Go.RowKit Go.Lib in
open Go.RowKit Go.Lib in
open Go.RowKit Go.Lib in
open Go.RowKit Go.Lib in
open Go.RowKit Go.Lib in
theorem Tryz.strings_Repeat (s : ByteArray) (c : Nat) (w : World) (hc : c ≤ 9223372036854775807) (hlen : s.size * c ≤ 140737488355328) :
 Calls Tryz.prog 36 #[.string s,.int .i64 c] w fun e w' => e = .returned (.string ⟨(Lib.repeatL s.data.toList c).toArray⟩) ∧ Below w.heap.size w w':=Any.strings_Repeat Tryz.lays105 Tryz.Builder_Extra_105 s c w hc hlen
end Go.Proofs
