/- strings.Join, and slices.Reverse of nodes: laid from the kit's shelf. -/
import Derived.Test.YtbegahbagnflnaaDoorLib
import Derived.Shelf.Strings.OnBuilder
import Derived.Shelf.SlicesQ.Reverse
import Derived.Ground.NamesProg
import Derived.Ground.SlgnProg
namespace Go.Proofs.YtbegahbagnflnaaDoor
open Go.Shelf
def Tryd.lays156_ren : Go.Shelf.Ren := ⟨fun | 156 => 119 | 165 => 122 | 166 => 123 | 169 => 124 | 240 => 126 | 241 => 127 | 276 => 128 | 277 => 129 | n => n, fun | 31 => 132 | 9 => 9 | 3 => 3 | 4 => 4 | 0 => 0 | 20 => 20 | 72 => 167 | 76 => 168 | 70 => 165 | 37 => 41 | 75 => 27 | 127 => 171 | 164 => 172 | 5 => 5 | 80 => 170 | n => n, fun | n => n⟩
theorem Tryd.lays156 : Go.Proofs.Lays.n156 Tryd.prog Tryd.lays156_ren := {
  mixed := by kernel_rfl
  f156 := Tryd.func119.trans (congrArg some (by kernel_rfl))
  f165 := Tryd.func122.trans (congrArg some (by kernel_rfl))
  f166 := Tryd.func123.trans (congrArg some (by kernel_rfl))
  f169 := Tryd.func124.trans (congrArg some (by kernel_rfl))
  f240 := Tryd.func126.trans (congrArg some (by kernel_rfl))
  f241 := Tryd.func127.trans (congrArg some (by kernel_rfl))
  f276 := Tryd.func128.trans (congrArg some (by kernel_rfl))
  f277 := Tryd.func129.trans (congrArg some (by kernel_rfl))
  t0 := Tryd.underlying0
  a0 := Tryd.isAgg0
  z0 := Tryd.sizeOf0
  v0 := Tryd.zeroValue0
  t3 := Tryd.underlying3
  a3 := Tryd.isAgg3
  z3 := Tryd.sizeOf3
  v3 := Tryd.zeroValue3
  t4 := Tryd.underlying4
  a4 := Tryd.isAgg4
  z4 := Tryd.sizeOf4
  v4 := Tryd.zeroValue4
  t9 := Tryd.underlying9
  a9 := Tryd.isAgg9
  z9 := Tryd.sizeOf9
  v9 := Tryd.zeroValue9
  t20 := Tryd.underlying20
  a20 := Tryd.isAgg20
  z20 := Tryd.sizeOf20
  v20 := Tryd.zeroValue20
  t31 := Tryd.underlying132
  a31 := Tryd.isAgg132
  z31 := Tryd.sizeOf132
  v31 := Tryd.zeroValue132
  t37 := Tryd.underlying41
  a37 := Tryd.isAgg41
  z37 := Tryd.sizeOf41
  v37 := Tryd.zeroValue41
  t70 := Tryd.underlying165
  a70 := Tryd.isAgg165
  z70 := Tryd.sizeOf165
  v70 := Tryd.zeroValue165
  t72 := Tryd.underlying167
  a72 := Tryd.isAgg167
  z72 := Tryd.sizeOf167
  v72 := Tryd.zeroValue167
  t75 := Tryd.underlying27
  a75 := Tryd.isAgg27
  z75 := Tryd.sizeOf27
  v75 := Tryd.zeroValue27
  t76 := Tryd.underlying168
  a76 := Tryd.isAgg168
  z76 := Tryd.sizeOf168
  v76 := Tryd.zeroValue168
  t127 := Tryd.underlying171
  a127 := Tryd.isAgg171
  z127 := Tryd.sizeOf171
  v127 := Tryd.zeroValue171
  t164 := Tryd.underlying172
  a164 := Tryd.isAgg172
  z164 := Tryd.sizeOf172
  v164 := Tryd.zeroValue172 }

theorem Tryd.extra156 : Builder.Extra Tryd.prog Tryd.lays156_ren := {
  sizeBuilder := by kernel_rfl
  liesBuilder := by kernel_rfl
  t5 := Tryd.underlying5
  a5 := Tryd.isAgg5
  z5 := Tryd.sizeOf5
  v5 := Tryd.zeroValue5
  infoByte := by kernel_rfl
  cellsByte := by kernel_rfl
  sizeByte := by kernel_rfl
  neB5 := by decide }
def Tryd.reverseN_ren : Go.Shelf.Ren := ⟨fun | 35 => 118 | n => n, fun | 22 => 22 | 23 => 36 | 3 => 3 | 4 => 4 | 0 => 0 | n => n, fun | n => n⟩
theorem Tryd.reverseN : Go.Proofs.SlLaysE0.n35 Tryd.prog Tryd.reverseN_ren := {
  mixed := by kernel_rfl
  f35 := ⟨Tryd.f118.name, by decide, Tryd.func118.trans (congrArg some (by kernel_rfl))⟩
  t0 := Tryd.underlying0
  a0 := Tryd.isAgg0
  z0 := Tryd.sizeOf0
  v0 := Tryd.zeroValue0
  t3 := Tryd.underlying3
  a3 := Tryd.isAgg3
  z3 := Tryd.sizeOf3
  v3 := Tryd.zeroValue3
  t4 := Tryd.underlying4
  a4 := Tryd.isAgg4
  z4 := Tryd.sizeOf4
  v4 := Tryd.zeroValue4
  t22 := Tryd.underlying22
  a22 := Tryd.isAgg22
  z22 := Tryd.sizeOf22
  v22 := Tryd.zeroValue22 }
end Go.Proofs.YtbegahbagnflnaaDoor
