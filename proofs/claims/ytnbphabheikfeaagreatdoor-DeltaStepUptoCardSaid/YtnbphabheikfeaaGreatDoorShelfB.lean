import Derived.Shelf.Strings.Builder1
import Derived.Shelf.Strings.Builder2
import Derived.Shelf.Strings.BuilderF
import Derived.Shelf.Strings.Repeat
import Derived.Shelf.Small.Strs
import Derived.Test.YtnbphabheikfeaaGreatDoorProg
namespace Go.Proofs
open Go.Shelf
open Go.RowKit in
def Tryz.lays169_ren : Go.Shelf.Ren:=⟨fun | 169 => 97 | n => n,fun | 70 => 159 | 9 => 9 | 0 => 0 | 72 => 162 | 37 => 160 | 127 => 188 | 3 => 3 | 5 => 5 | n => n,fun | n => n⟩
theorem Tryz.lays169 : Go.Proofs.Lays.n169 Tryz.prog Tryz.lays169_ren:={
 mixed:=by kernel_rfl
 f169:=Tryz.func97.trans (congrArg some (by kernel_rfl))
 t0:=Tryz.underlying0
 a0:=Tryz.isAgg0
 z0:=Tryz.sizeOf0
 v0:=Tryz.zeroValue0
 t3:=Tryz.underlying3
 a3:=Tryz.isAgg3
 z3:=Tryz.sizeOf3
 v3:=Tryz.zeroValue3
 t9:=Tryz.underlying9
 a9:=Tryz.isAgg9
 z9:=Tryz.sizeOf9
 v9:=Tryz.zeroValue9
 t37:=Tryz.underlying160
 a37:=Tryz.isAgg160
 z37:=Tryz.sizeOf160
 v37:=Tryz.zeroValue160
 t70:=Tryz.underlying159
 a70:=Tryz.isAgg159
 z70:=Tryz.sizeOf159
 v70:=Tryz.zeroValue159
 t72:=Tryz.underlying162
 a72:=Tryz.isAgg162
 z72:=Tryz.sizeOf162
 v72:=Tryz.zeroValue162
 t127:=Tryz.underlying188
 a127:=Tryz.isAgg188
 z127:=Tryz.sizeOf188
 v127:=Tryz.zeroValue188 }
theorem Tryz.Builder_Extra_169 : Builder.Extra Tryz.prog Tryz.lays169_ren:={
 sizeBuilder:=by kernel_rfl
 liesBuilder:=by kernel_rfl
 t5:=Tryz.underlying5
 a5:=Tryz.isAgg5
 z5:=Tryz.sizeOf5
 v5:=Tryz.zeroValue5
 infoByte:=by kernel_rfl
 cellsByte:=by kernel_rfl
 sizeByte:=by kernel_rfl
 neB5:=by decide }
open Go.RowKit in
open Go.RowKit in
open Go.RowKit in
theorem Tryz.Builder_String_any (B b : Nat) (l : List UInt8) (w : World) (h : Lib.IsBuilder 162 5 B b (Lib.byteCells l) w) (hBw : B ≤ w.heap.size) :
  Calls Tryz.prog 97 #[.pointer (some ⟨b,0,none⟩)] w fun e w' => e = .returned (.string ⟨l.toArray⟩) ∧ Below B w w':=Any.Builder_String_any Tryz.lays169 Tryz.Builder_Extra_169 B b l w h hBw
open Go.RowKit in
def Tryz.lays165_ren : Go.Shelf.Ren:=⟨fun | 165 => 94 | 240 => 139 | 241 => 140 | 276 => 167 | 277 => 168 | n => n,fun | 70 => 159 | 3 => 3 | 0 => 0 | 4 => 4 | 9 => 9 | 20 => 20 | 72 => 162 | 37 => 160 | 164 => 201 | 5 => 5 | n => n,fun | n => n⟩
theorem Tryz.lays165 : Go.Proofs.Lays.n165 Tryz.prog Tryz.lays165_ren:={
 mixed:=by kernel_rfl
 f165:=Tryz.func94.trans (congrArg some (by kernel_rfl))
 f240:=Tryz.func139.trans (congrArg some (by kernel_rfl))
 f241:=Tryz.func140.trans (congrArg some (by kernel_rfl))
 f276:=Tryz.func167.trans (congrArg some (by kernel_rfl))
 f277:=Tryz.func168.trans (congrArg some (by kernel_rfl))
 t0:=Tryz.underlying0
 a0:=Tryz.isAgg0
 z0:=Tryz.sizeOf0
 v0:=Tryz.zeroValue0
 t3:=Tryz.underlying3
 a3:=Tryz.isAgg3
 z3:=Tryz.sizeOf3
 v3:=Tryz.zeroValue3
 t4:=Tryz.underlying4
 a4:=Tryz.isAgg4
 z4:=Tryz.sizeOf4
 v4:=Tryz.zeroValue4
 t9:=Tryz.underlying9
 a9:=Tryz.isAgg9
 z9:=Tryz.sizeOf9
 v9:=Tryz.zeroValue9
 t20:=Tryz.underlying20
 a20:=Tryz.isAgg20
 z20:=Tryz.sizeOf20
 v20:=Tryz.zeroValue20
 t37:=Tryz.underlying160
 a37:=Tryz.isAgg160
 z37:=Tryz.sizeOf160
 v37:=Tryz.zeroValue160
 t70:=Tryz.underlying159
 a70:=Tryz.isAgg159
 z70:=Tryz.sizeOf159
 v70:=Tryz.zeroValue159
 t72:=Tryz.underlying162
 a72:=Tryz.isAgg162
 z72:=Tryz.sizeOf162
 v72:=Tryz.zeroValue162
 t164:=Tryz.underlying201
 a164:=Tryz.isAgg201
 z164:=Tryz.sizeOf201
 v164:=Tryz.zeroValue201 }
theorem Tryz.Builder_Extra_165 : Builder.Extra Tryz.prog Tryz.lays165_ren:={
 sizeBuilder:=by kernel_rfl
 liesBuilder:=by kernel_rfl
 t5:=Tryz.underlying5
 a5:=Tryz.isAgg5
 z5:=Tryz.sizeOf5
 v5:=Tryz.zeroValue5
 infoByte:=by kernel_rfl
 cellsByte:=by kernel_rfl
 sizeByte:=by kernel_rfl
 neB5:=by decide }
open Go.RowKit in
theorem Tryz.Builder_Grow_fresh (B b n : Nat) (w : World) (hB : B ≤ b) (hbk : w.heap[b]? = some (.cells #[.pointer none,.slice none 0 0] 162 (0,0))) (hBw : B ≤ w.heap.size) (hn : n ≤ 281474976710656) :
  Calls Tryz.prog 94 #[.pointer (some ⟨b,0,none⟩),.int .i64 n] w fun e w' => e = .returned (.tuple #[]) ∧ (Lib.BuilderAt 162 5 B b (.pointer (some ⟨b,0,none⟩)) [] w' ∧ Below B w w'):=Any.Builder_Grow_fresh Tryz.lays165 Tryz.Builder_Extra_165 B b n w hB hbk hBw hn
open Go.RowKit in
open Go.RowKit in
open Go.RowKit in
open Go.RowKit in
open Go.RowKit in
def Tryz.lays105_ren : Go.Shelf.Ren:=⟨fun | 105 => 166 | 212 => 205 | 99 => 206 | 165 => 94 | 166 => 96 | 170 => 207 | 169 => 97 | 263 => 254 | 264 => 255 | 206 => 256 | 240 => 139 | 241 => 140 | 276 => 167 | 277 => 168 | n => n,fun | 9 => 9 | 3 => 3 | 4 => 4 | 20 => 20 | 0 => 0 | 46 => 95 | 109 => 255 | 5 => 5 | 72 => 162 | 76 => 167 | 51 => 52 | 146 => 313 | 53 => 22 | 148 => 315 | 70 => 159 | 37 => 160 | 75 => 165 | 127 => 188 | 164 => 201 | 80 => 169 | n => n,fun | n => n⟩
theorem Tryz.lays105 : Go.Proofs.Lays.n105 Tryz.prog Tryz.lays105_ren:={
 mixed:=by kernel_rfl
 f99:=Tryz.func206.trans (congrArg some (by kernel_rfl))
 f105:=Tryz.func166.trans (congrArg some (by kernel_rfl))
 f165:=Tryz.func94.trans (congrArg some (by kernel_rfl))
 f166:=Tryz.func96.trans (congrArg some (by kernel_rfl))
 f169:=Tryz.func97.trans (congrArg some (by kernel_rfl))
 f170:=Tryz.func207.trans (congrArg some (by kernel_rfl))
 f206:=Tryz.func256.trans (congrArg some (by kernel_rfl))
 f212:=Tryz.func205.trans (congrArg some (by kernel_rfl))
 f240:=Tryz.func139.trans (congrArg some (by kernel_rfl))
 f241:=Tryz.func140.trans (congrArg some (by kernel_rfl))
 f263:=Tryz.func254.trans (congrArg some (by kernel_rfl))
 f264:=Tryz.func255.trans (congrArg some (by kernel_rfl))
 f276:=Tryz.func167.trans (congrArg some (by kernel_rfl))
 f277:=Tryz.func168.trans (congrArg some (by kernel_rfl))
 t0:=Tryz.underlying0
 a0:=Tryz.isAgg0
 z0:=Tryz.sizeOf0
 v0:=Tryz.zeroValue0
 t3:=Tryz.underlying3
 a3:=Tryz.isAgg3
 z3:=Tryz.sizeOf3
 v3:=Tryz.zeroValue3
 t4:=Tryz.underlying4
 a4:=Tryz.isAgg4
 z4:=Tryz.sizeOf4
 v4:=Tryz.zeroValue4
 t5:=Tryz.underlying5
 a5:=Tryz.isAgg5
 z5:=Tryz.sizeOf5
 v5:=Tryz.zeroValue5
 t9:=Tryz.underlying9
 a9:=Tryz.isAgg9
 z9:=Tryz.sizeOf9
 v9:=Tryz.zeroValue9
 t20:=Tryz.underlying20
 a20:=Tryz.isAgg20
 z20:=Tryz.sizeOf20
 v20:=Tryz.zeroValue20
 t37:=Tryz.underlying160
 a37:=Tryz.isAgg160
 z37:=Tryz.sizeOf160
 v37:=Tryz.zeroValue160
 t46:=Tryz.underlying95
 a46:=Tryz.isAgg95
 z46:=Tryz.sizeOf95
 v46:=Tryz.zeroValue95
 t51:=Tryz.underlying52
 a51:=Tryz.isAgg52
 z51:=Tryz.sizeOf52
 v51:=Tryz.zeroValue52
 t53:=Tryz.underlying22
 a53:=Tryz.isAgg22
 z53:=Tryz.sizeOf22
 v53:=Tryz.zeroValue22
 t70:=Tryz.underlying159
 a70:=Tryz.isAgg159
 z70:=Tryz.sizeOf159
 v70:=Tryz.zeroValue159
 t72:=Tryz.underlying162
 a72:=Tryz.isAgg162
 z72:=Tryz.sizeOf162
 v72:=Tryz.zeroValue162
 t75:=Tryz.underlying165
 a75:=Tryz.isAgg165
 z75:=Tryz.sizeOf165
 v75:=Tryz.zeroValue165
 t76:=Tryz.underlying167
 a76:=Tryz.isAgg167
 z76:=Tryz.sizeOf167
 v76:=Tryz.zeroValue167
 t109:=Tryz.underlying255
 a109:=Tryz.isAgg255
 z109:=Tryz.sizeOf255
 v109:=Tryz.zeroValue255
 t127:=Tryz.underlying188
 a127:=Tryz.isAgg188
 z127:=Tryz.sizeOf188
 v127:=Tryz.zeroValue188
 t146:=Tryz.underlying313
 a146:=Tryz.isAgg313
 z146:=Tryz.sizeOf313
 v146:=Tryz.zeroValue313
 t148:=Tryz.underlying315
 a148:=Tryz.isAgg315
 z148:=Tryz.sizeOf315
 v148:=Tryz.zeroValue315
 t164:=Tryz.underlying201
 a164:=Tryz.isAgg201
 z164:=Tryz.sizeOf201
 v164:=Tryz.zeroValue201 }
theorem Tryz.Builder_Extra_105 : Builder.Extra Tryz.prog Tryz.lays105_ren:={
 sizeBuilder:=by kernel_rfl
 liesBuilder:=by kernel_rfl
 t5:=Tryz.underlying5
 a5:=Tryz.isAgg5
 z5:=Tryz.sizeOf5
 v5:=Tryz.zeroValue5
 infoByte:=by kernel_rfl
 cellsByte:=by kernel_rfl
 sizeByte:=by kernel_rfl
 neB5:=by decide }
open Go.RowKit Go.Lib in
open Go.RowKit Go.Lib in
open Go.RowKit Go.Lib in
open Go.RowKit Go.Lib in
open Go.RowKit Go.Lib in
open Go.RowKit Go.Lib in
open Go.RowKit Go.Lib in
theorem Tryz.strings_Repeat (s : ByteArray) (c : Nat) (w : World) (hc : c ≤ 9223372036854775807) (hlen : s.size * c ≤ 140737488355328) :
  Calls Tryz.prog 166 #[.string s,.int .i64 c] w fun e w' => e = .returned (.string ⟨(Lib.repeatL s.data.toList c).toArray⟩) ∧ Below w.heap.size w w':=Any.strings_Repeat Tryz.lays105 Tryz.Builder_Extra_105 s c w hc hlen
end Go.Proofs
