/- Two functions of Go's library as the kit's shelf states them; names; a disk, a log and a table of nothing. -/
import Derived.Shelf.Strings.Repeat
import Derived.Shelf.Strconv.Itoa3
import Derived.Ground.Names2Prog
import Derived.Shelf.SlIter.Nil
import Derived.Shelf.SortM.Plain
import Derived.Shelf.SortM.SortNone
import Derived.Ground.GgzProg
import Derived.Ground.SlgmProg
import Derived.Test.YtadaoplmicghcaaGreatDoorProg
import Derived.Test.YtadaoplmicghcaaGreatDoorM6
namespace Go.Proofs
open Go.Shelf
def Tryz.keys110_ren : Go.Shelf.Ren := ⟨fun | 7 => 110 | 10 => 127 | n => n, fun | 23 => 118 | 26 => 9 | 3 => 185 | 28 => 176 | 0 => 0 | 27 => 175 | 33 => 108 | 4 => 4 | n => n, fun | n => n⟩
theorem Tryz.keys110 : Go.Proofs.SlLaysZ.n7 Tryz.prog Tryz.keys110_ren := {
  mixed := by kernel_rfl
  f7 := ⟨Tryz.f110.name, by decide, Tryz.func110.trans (congrArg some (by kernel_rfl))⟩
  f10 := ⟨Tryz.f127.name, by decide, Tryz.func127.trans (congrArg some (by kernel_rfl))⟩
  t0 := Tryz.underlying0
  a0 := Tryz.isAgg0
  z0 := Tryz.sizeOf0
  v0 := Tryz.zeroValue0
  t4 := Tryz.underlying4
  a4 := Tryz.isAgg4
  z4 := Tryz.sizeOf4
  v4 := Tryz.zeroValue4
  t23 := Tryz.underlying118
  a23 := Tryz.isAgg118
  z23 := Tryz.sizeOf118
  v23 := Tryz.zeroValue118
  t26 := Tryz.underlying9
  a26 := Tryz.isAgg9
  z26 := Tryz.sizeOf9
  v26 := Tryz.zeroValue9
  t27 := Tryz.underlying175
  a27 := Tryz.isAgg175
  z27 := Tryz.sizeOf175
  v27 := Tryz.zeroValue175
  t28 := Tryz.underlying176
  a28 := Tryz.isAgg176
  z28 := Tryz.sizeOf176
  v28 := Tryz.zeroValue176
  t33 := Tryz.underlying108
  a33 := Tryz.isAgg108
  z33 := Tryz.sizeOf108
  v33 := Tryz.zeroValue108 }
def Tryz.sorted90_ren : Go.Shelf.Ren := ⟨fun | 6 => 90 | 8 => 104 | 9 => 105 | 11 => 122 | 13 => 124 | 12 => 123 | 23 => 148 | 24 => 149 | 14 => 139 | 15 => 140 | 16 => 141 | 17 => 142 | 18 => 143 | 19 => 144 | 20 => 145 | 21 => 146 | 22 => 147 | 25 => 160 | 26 => 161 | 27 => 162 | 28 => 163 | 29 => 164 | 30 => 165 | 31 => 172 | n => n, fun | 26 => 9 | 28 => 176 | 24 => 173 | 0 => 0 | 3 => 3 | 37 => 180 | 48 => 199 | 50 => 125 | 4 => 4 | 40 => 240 | 39 => 239 | 45 => 244 | 5 => 5 | 9 => 9 | 51 => 261 | 55 => 265 | 57 => 275 | 58 => 276 | 33 => 108 | n => n, fun | n => n⟩
theorem Tryz.sorted90 : Go.Proofs.SlLaysZ.n6 Tryz.prog Tryz.sorted90_ren := {
  mixed := by kernel_rfl
  f6 := ⟨Tryz.f90.name, by decide, Tryz.func90.trans (congrArg some (by kernel_rfl))⟩
  f8 := ⟨Tryz.f104.name, by decide, Tryz.func104.trans (congrArg some (by kernel_rfl))⟩
  f11 := ⟨Tryz.f122.name, by decide, Tryz.func122.trans (congrArg some (by kernel_rfl))⟩
  t0 := Tryz.underlying0
  a0 := Tryz.isAgg0
  z0 := Tryz.sizeOf0
  v0 := Tryz.zeroValue0
  t24 := Tryz.underlying173
  a24 := Tryz.isAgg173
  z24 := Tryz.sizeOf173
  v24 := Tryz.zeroValue173
  t26 := Tryz.underlying9
  a26 := Tryz.isAgg9
  z26 := Tryz.sizeOf9
  v26 := Tryz.zeroValue9
  t28 := Tryz.underlying176
  a28 := Tryz.isAgg176
  z28 := Tryz.sizeOf176
  v28 := Tryz.zeroValue176
  i26 := by kernel_rfl }
def Tryz.sort105_ren : Go.Shelf.Ren := ⟨fun | 6 => 105 | 8 => 124 | 9 => 123 | 19 => 148 | 20 => 149 | 21 => 139 | 22 => 140 | 23 => 141 | 24 => 142 | 25 => 143 | 26 => 144 | 27 => 145 | 28 => 146 | 29 => 147 | 36 => 160 | 31 => 161 | 32 => 162 | 37 => 163 | 38 => 164 | 39 => 165 | 41 => 172 | n => n, fun | 27 => 173 | 29 => 9 | 3 => 3 | 32 => 180 | 26 => 173 | 0 => 0 | 44 => 199 | 46 => 125 | 4 => 4 | 36 => 240 | 35 => 239 | 41 => 244 | 5 => 5 | 9 => 9 | 53 => 261 | 57 => 265 | 63 => 275 | 64 => 276 | n => n, fun | n => n⟩
theorem Tryz.sort105 : Go.Proofs.SlLaysM.n6 Tryz.prog Tryz.sort105_ren := {
  mixed := by kernel_rfl
  f6 := ⟨Tryz.f105.name, by decide, Tryz.func105.trans (congrArg some (by kernel_rfl))⟩
  f8 := Tryz.func124.trans (congrArg some (by kernel_rfl))
  f9 := ⟨Tryz.f123.name, by decide, Tryz.func123.trans (congrArg some (by kernel_rfl))⟩
  f19 := Tryz.func148.trans (congrArg some (by kernel_rfl))
  f20 := Tryz.func149.trans (congrArg some (by kernel_rfl))
  f21 := ⟨Tryz.f139.name, by decide, Tryz.func139.trans (congrArg some (by kernel_rfl))⟩
  f22 := ⟨Tryz.f140.name, by decide, Tryz.func140.trans (congrArg some (by kernel_rfl))⟩
  f23 := ⟨Tryz.f141.name, by decide, Tryz.func141.trans (congrArg some (by kernel_rfl))⟩
  f24 := ⟨Tryz.f142.name, by decide, Tryz.func142.trans (congrArg some (by kernel_rfl))⟩
  f25 := ⟨Tryz.f143.name, by decide, Tryz.func143.trans (congrArg some (by kernel_rfl))⟩
  f26 := ⟨Tryz.f144.name, by decide, Tryz.func144.trans (congrArg some (by kernel_rfl))⟩
  f27 := ⟨Tryz.f145.name, by decide, Tryz.func145.trans (congrArg some (by kernel_rfl))⟩
  f28 := ⟨Tryz.f146.name, by decide, Tryz.func146.trans (congrArg some (by kernel_rfl))⟩
  f29 := ⟨Tryz.f147.name, by decide, Tryz.func147.trans (congrArg some (by kernel_rfl))⟩
  f31 := Tryz.func161.trans (congrArg some (by kernel_rfl))
  f32 := Tryz.func162.trans (congrArg some (by kernel_rfl))
  f36 := ⟨Tryz.f160.name, by decide, Tryz.func160.trans (congrArg some (by kernel_rfl))⟩
  f37 := ⟨Tryz.f163.name, by decide, Tryz.func163.trans (congrArg some (by kernel_rfl))⟩
  f38 := ⟨Tryz.f164.name, by decide, Tryz.func164.trans (congrArg some (by kernel_rfl))⟩
  f39 := ⟨Tryz.f165.name, by decide, Tryz.func165.trans (congrArg some (by kernel_rfl))⟩
  f41 := ⟨Tryz.f172.name, by decide, Tryz.func172.trans (congrArg some (by kernel_rfl))⟩
  t0 := Tryz.underlying0
  a0 := Tryz.isAgg0
  z0 := Tryz.sizeOf0
  v0 := Tryz.zeroValue0
  t3 := Tryz.underlying3
  a3 := Tryz.isAgg3
  z3 := Tryz.sizeOf3
  v3 := Tryz.zeroValue3
  t4 := Tryz.underlying4
  a4 := Tryz.isAgg4
  z4 := Tryz.sizeOf4
  v4 := Tryz.zeroValue4
  t5 := Tryz.underlying5
  a5 := Tryz.isAgg5
  z5 := Tryz.sizeOf5
  v5 := Tryz.zeroValue5
  t9 := Tryz.underlying9
  a9 := Tryz.isAgg9
  z9 := Tryz.sizeOf9
  v9 := Tryz.zeroValue9
  t26 := Tryz.underlying173
  a26 := Tryz.isAgg173
  z26 := Tryz.sizeOf173
  v26 := Tryz.zeroValue173
  t27 := Tryz.underlying173
  a27 := Tryz.isAgg173
  z27 := Tryz.sizeOf173
  v27 := Tryz.zeroValue173
  t29 := Tryz.underlying9
  a29 := Tryz.isAgg9
  z29 := Tryz.sizeOf9
  v29 := Tryz.zeroValue9
  t32 := Tryz.underlying180
  a32 := Tryz.isAgg180
  z32 := Tryz.sizeOf180
  v32 := Tryz.zeroValue180
  t35 := Tryz.underlying239
  a35 := Tryz.isAgg239
  z35 := Tryz.sizeOf239
  v35 := Tryz.zeroValue239
  t36 := Tryz.underlying240
  a36 := Tryz.isAgg240
  z36 := Tryz.sizeOf240
  v36 := Tryz.zeroValue240
  t41 := Tryz.underlying244
  a41 := Tryz.isAgg244
  z41 := Tryz.sizeOf244
  v41 := Tryz.zeroValue244
  t44 := Tryz.underlying199
  a44 := Tryz.isAgg199
  z44 := Tryz.sizeOf199
  v44 := Tryz.zeroValue199
  t46 := Tryz.underlying125
  a46 := Tryz.isAgg125
  z46 := Tryz.sizeOf125
  v46 := Tryz.zeroValue125
  t53 := Tryz.underlying261
  a53 := Tryz.isAgg261
  z53 := Tryz.sizeOf261
  v53 := Tryz.zeroValue261
  t57 := Tryz.underlying265
  a57 := Tryz.isAgg265
  z57 := Tryz.sizeOf265
  v57 := Tryz.zeroValue265
  t63 := Tryz.underlying275
  a63 := Tryz.isAgg275
  z63 := Tryz.sizeOf275
  v63 := Tryz.zeroValue275
  t64 := Tryz.underlying276
  a64 := Tryz.isAgg276
  z64 := Tryz.sizeOf276
  v64 := Tryz.zeroValue276 }
def Tryz.lays171_ren : Go.Shelf.Ren := ⟨fun | 171 => 98 | 243 => 114 | 246 => 134 | 283 => 154 | 284 => 155 | 285 => 156 | 286 => 157 | 129 => 149 | 317 => 168 | 318 => 169 | 319 => 170 | 320 => 171 | 337 => 173 | 338 => 174 | n => n, fun | 3 => 3 | 9 => 9 | 2 => 2 | 4 => 4 | 171 => 254 | 0 => 0 | 53 => 125 | 37 => 68 | 5 => 5 | 173 => 256 | 212 => 273 | 51 => 199 | 20 => 20 | 213 => 274 | 46 => 180 | 232 => 278 | 233 => 279 | n => n, fun | 17 => 2 | 18 => 4 | 19 => 5 | n => n⟩
theorem Tryz.lays171 : Go.Proofs.Lays.n171 Tryz.prog Tryz.lays171_ren := {
  mixed := by kernel_rfl
  f129 := Tryz.func149.trans (congrArg some (by kernel_rfl))
  f171 := Tryz.func98.trans (congrArg some (by kernel_rfl))
  f243 := Tryz.func114.trans (congrArg some (by kernel_rfl))
  f246 := Tryz.func134.trans (congrArg some (by kernel_rfl))
  f283 := Tryz.func154.trans (congrArg some (by kernel_rfl))
  f284 := Tryz.func155.trans (congrArg some (by kernel_rfl))
  f285 := Tryz.func156.trans (congrArg some (by kernel_rfl))
  f286 := Tryz.func157.trans (congrArg some (by kernel_rfl))
  f317 := Tryz.func168.trans (congrArg some (by kernel_rfl))
  f318 := Tryz.func169.trans (congrArg some (by kernel_rfl))
  f319 := Tryz.func170.trans (congrArg some (by kernel_rfl))
  f320 := Tryz.func171.trans (congrArg some (by kernel_rfl))
  f337 := Tryz.func173.trans (congrArg some (by kernel_rfl))
  f338 := Tryz.func174.trans (congrArg some (by kernel_rfl))
  t0 := Tryz.underlying0
  a0 := Tryz.isAgg0
  z0 := Tryz.sizeOf0
  v0 := Tryz.zeroValue0
  t2 := Tryz.underlying2
  a2 := Tryz.isAgg2
  z2 := Tryz.sizeOf2
  v2 := Tryz.zeroValue2
  t3 := Tryz.underlying3
  a3 := Tryz.isAgg3
  z3 := Tryz.sizeOf3
  v3 := Tryz.zeroValue3
  t4 := Tryz.underlying4
  a4 := Tryz.isAgg4
  z4 := Tryz.sizeOf4
  v4 := Tryz.zeroValue4
  t5 := Tryz.underlying5
  a5 := Tryz.isAgg5
  z5 := Tryz.sizeOf5
  v5 := Tryz.zeroValue5
  t9 := Tryz.underlying9
  a9 := Tryz.isAgg9
  z9 := Tryz.sizeOf9
  v9 := Tryz.zeroValue9
  t20 := Tryz.underlying20
  a20 := Tryz.isAgg20
  z20 := Tryz.sizeOf20
  v20 := Tryz.zeroValue20
  t37 := Tryz.underlying68
  a37 := Tryz.isAgg68
  z37 := Tryz.sizeOf68
  v37 := Tryz.zeroValue68
  t46 := Tryz.underlying180
  a46 := Tryz.isAgg180
  z46 := Tryz.sizeOf180
  v46 := Tryz.zeroValue180
  t51 := Tryz.underlying199
  a51 := Tryz.isAgg199
  z51 := Tryz.sizeOf199
  v51 := Tryz.zeroValue199
  t53 := Tryz.underlying125
  a53 := Tryz.isAgg125
  z53 := Tryz.sizeOf125
  v53 := Tryz.zeroValue125
  t171 := Tryz.underlying254
  a171 := Tryz.isAgg254
  z171 := Tryz.sizeOf254
  v171 := Tryz.zeroValue254
  t173 := Tryz.underlying256
  a173 := Tryz.isAgg256
  z173 := Tryz.sizeOf256
  v173 := Tryz.zeroValue256
  t212 := Tryz.underlying273
  a212 := Tryz.isAgg273
  z212 := Tryz.sizeOf273
  v212 := Tryz.zeroValue273
  t213 := Tryz.underlying274
  a213 := Tryz.isAgg274
  z213 := Tryz.sizeOf274
  t232 := Tryz.underlying278
  a232 := Tryz.isAgg278
  z232 := Tryz.sizeOf278
  v232 := Tryz.zeroValue278
  t233 := Tryz.underlying279
  a233 := Tryz.isAgg279
  z233 := Tryz.sizeOf279
  v233 := Tryz.zeroValue279
  g17 := by kernel_rfl
  g18 := by kernel_rfl
  g19 := by kernel_rfl }
open Go.RowKit Go.Sort Go.Lib in
theorem Tryz.strconv_Itoa_small (i : Nat) (hi : i < 100) (w : World) :
    Calls Tryz.prog 98 #[.int .i64 i] w fun e w' => e = .returned (.string ⟨(Lib.decDigits i).toArray⟩) ∧ w' = w := Any.strconv_Itoa_small Tryz.lays171 i hi w
def Tryz.lays105_ren : Go.Shelf.Ren := ⟨fun | 105 => 99 | 212 => 115 | 99 => 116 | 165 => 117 | 166 => 118 | 170 => 119 | 169 => 120 | 263 => 135 | 264 => 136 | 206 => 128 | 240 => 137 | 241 => 138 | 276 => 158 | 277 => 159 | n => n, fun | 9 => 9 | 3 => 3 | 4 => 4 | 20 => 20 | 0 => 0 | 46 => 180 | 109 => 205 | 5 => 5 | 72 => 210 | 76 => 42 | 51 => 199 | 146 => 233 | 53 => 125 | 148 => 235 | 70 => 208 | 37 => 68 | 75 => 37 | 127 => 237 | 164 => 258 | 80 => 211 | n => n, fun | n => n⟩
theorem Tryz.lays105 : Go.Proofs.Lays.n105 Tryz.prog Tryz.lays105_ren := {
  mixed := by kernel_rfl
  f99 := Tryz.func116.trans (congrArg some (by kernel_rfl))
  f105 := Tryz.func99.trans (congrArg some (by kernel_rfl))
  f165 := Tryz.func117.trans (congrArg some (by kernel_rfl))
  f166 := Tryz.func118.trans (congrArg some (by kernel_rfl))
  f169 := Tryz.func120.trans (congrArg some (by kernel_rfl))
  f170 := Tryz.func119.trans (congrArg some (by kernel_rfl))
  f206 := Tryz.func128.trans (congrArg some (by kernel_rfl))
  f212 := Tryz.func115.trans (congrArg some (by kernel_rfl))
  f240 := Tryz.func137.trans (congrArg some (by kernel_rfl))
  f241 := Tryz.func138.trans (congrArg some (by kernel_rfl))
  f263 := Tryz.func135.trans (congrArg some (by kernel_rfl))
  f264 := Tryz.func136.trans (congrArg some (by kernel_rfl))
  f276 := Tryz.func158.trans (congrArg some (by kernel_rfl))
  f277 := Tryz.func159.trans (congrArg some (by kernel_rfl))
  t0 := Tryz.underlying0
  a0 := Tryz.isAgg0
  z0 := Tryz.sizeOf0
  v0 := Tryz.zeroValue0
  t3 := Tryz.underlying3
  a3 := Tryz.isAgg3
  z3 := Tryz.sizeOf3
  v3 := Tryz.zeroValue3
  t4 := Tryz.underlying4
  a4 := Tryz.isAgg4
  z4 := Tryz.sizeOf4
  v4 := Tryz.zeroValue4
  t5 := Tryz.underlying5
  a5 := Tryz.isAgg5
  z5 := Tryz.sizeOf5
  v5 := Tryz.zeroValue5
  t9 := Tryz.underlying9
  a9 := Tryz.isAgg9
  z9 := Tryz.sizeOf9
  v9 := Tryz.zeroValue9
  t20 := Tryz.underlying20
  a20 := Tryz.isAgg20
  z20 := Tryz.sizeOf20
  v20 := Tryz.zeroValue20
  t37 := Tryz.underlying68
  a37 := Tryz.isAgg68
  z37 := Tryz.sizeOf68
  v37 := Tryz.zeroValue68
  t46 := Tryz.underlying180
  a46 := Tryz.isAgg180
  z46 := Tryz.sizeOf180
  v46 := Tryz.zeroValue180
  t51 := Tryz.underlying199
  a51 := Tryz.isAgg199
  z51 := Tryz.sizeOf199
  v51 := Tryz.zeroValue199
  t53 := Tryz.underlying125
  a53 := Tryz.isAgg125
  z53 := Tryz.sizeOf125
  v53 := Tryz.zeroValue125
  t70 := Tryz.underlying208
  a70 := Tryz.isAgg208
  z70 := Tryz.sizeOf208
  v70 := Tryz.zeroValue208
  t72 := Tryz.underlying210
  a72 := Tryz.isAgg210
  z72 := Tryz.sizeOf210
  v72 := Tryz.zeroValue210
  t75 := Tryz.underlying37
  a75 := Tryz.isAgg37
  z75 := Tryz.sizeOf37
  v75 := Tryz.zeroValue37
  t76 := Tryz.underlying42
  a76 := Tryz.isAgg42
  z76 := Tryz.sizeOf42
  v76 := Tryz.zeroValue42
  t109 := Tryz.underlying205
  a109 := Tryz.isAgg205
  z109 := Tryz.sizeOf205
  v109 := Tryz.zeroValue205
  t127 := Tryz.underlying237
  a127 := Tryz.isAgg237
  z127 := Tryz.sizeOf237
  v127 := Tryz.zeroValue237
  t146 := Tryz.underlying233
  a146 := Tryz.isAgg233
  z146 := Tryz.sizeOf233
  v146 := Tryz.zeroValue233
  t148 := Tryz.underlying235
  a148 := Tryz.isAgg235
  z148 := Tryz.sizeOf235
  v148 := Tryz.zeroValue235
  t164 := Tryz.underlying258
  a164 := Tryz.isAgg258
  z164 := Tryz.sizeOf258
  v164 := Tryz.zeroValue258 }
theorem Tryz.Builder_Extra_105 : Builder.Extra Tryz.prog Tryz.lays105_ren := {
  sizeBuilder := by kernel_rfl
  liesBuilder := by kernel_rfl
  t5 := Tryz.underlying5
  a5 := Tryz.isAgg5
  z5 := Tryz.sizeOf5
  v5 := Tryz.zeroValue5
  infoByte := by kernel_rfl
  cellsByte := by kernel_rfl
  sizeByte := by kernel_rfl
  neB5 := by decide }
open Go.RowKit Go.Lib in
theorem Tryz.strings_Repeat (s : ByteArray) (c : Nat) (w : World) (hc : c ≤ 9223372036854775807) (hlen : s.size * c ≤ 140737488355328) :
    Calls Tryz.prog 99 #[.string s, .int .i64 c] w fun e w' => e = .returned (.string ⟨(Lib.repeatL s.data.toList c).toArray⟩) ∧ Below w.heap.size w w' := Any.strings_Repeat Tryz.lays105 Tryz.Builder_Extra_105 s c w hc hlen
end Go.Proofs
namespace Go.Proofs.YtadaoplmicghcaaGreatDoor.Aw
open Go.RowKit Go.Proofs.YtadaoplmicghcaaGreatDoorW.PrintWords Go.Proofs.YtadaoplmicghcaaGreatDoorW.PrintLast Go.Proofs.YtadaoplmicghcaaGreatDoorW.PrintMore
set_option linter.unusedVariables false
set_option linter.unusedSimpArgs false
/-- The blocks of K may turn, and no others; nothing below lo. -/
structure Fr (w w' : World) (lo : Nat) (K : Nat → Prop) : Prop where
  below : Below lo w w'
  kept : Kept w w' K
theorem keeps {B : Nat} {w w' : World} (h : Below B w w') {p : Addr} {v : Value} (hc : w.cell? p = some v) (hp : p.block < B) : w'.cell? p = some v := (h.cell hp).trans hc
section
variable {w w1 w2 : World} {lo : Nat} {K K' : Nat → Prop}
theorem Fr.refl (w : World) (lo : Nat) (K : Nat → Prop) : Fr w w lo K := ⟨Below.refl _ _, Kept.refl _ _⟩
theorem Fr.trans (h : Fr w w1 lo K) (k : Fr w1 w2 lo K') (hs : ∀ k, K' k → K k ∨ w.heap.size ≤ k) : Fr w w2 lo K := ⟨h.below.trans k.below, h.kept.then_ k.kept hs⟩
theorem Fr.then_ (h : Fr w w1 lo K) (hb : Below w1.heap.size w1 w2) (hl : lo ≤ w.heap.size) : Fr w w2 lo K := ⟨h.below.trans (hb.mono (Nat.le_trans hl h.below.size)), h.kept.below hb⟩
theorem Fr.of (hb : Below w.heap.size w w1) (hl : lo ≤ w.heap.size) : Fr w w1 lo K := (Fr.refl w lo K).then_ hb hl
theorem Fr.alloc (h : Fr w w1 lo K) (o : Obj) (hl : lo ≤ w.heap.size) : Fr w (w1.alloc o) lo K := h.then_ (below_alloc (Below.refl _ _) o) hl
theorem Fr.drewN (h : Fr w w1 lo K) (n : Nat) (hl : lo ≤ w.heap.size) : Fr w (w1.drewN n) lo K := h.then_ (pw_below_drewN (Below.refl _ _) n) hl
theorem Fr.set (h : Fr w w1 lo K) (p : Addr) (v : Value) (hp : K p.block ∨ w.heap.size ≤ p.block) (hl : lo ≤ p.block) : Fr w (w1.setCell p v) lo K := by
  obtain ⟨g, i, o⟩ := p
  have hsz : (w1.setCell ⟨g, i, o⟩ v).heap.size = w1.heap.size := by simp [World.setCell]
  exact ⟨h.below.trans ((Below.refl _ _).setCell hl v), h.kept.then_ (S2 := fun k => k = g) ⟨by omega, fun k hk hn => Below.heap_setCell _ _ _ _ hn⟩ (fun k hk => by subst hk; exact hp)⟩
theorem Fr.mono (h : Fr w w1 lo K) (hs : ∀ k, K k → K' k) : Fr w w1 lo K' := ⟨h.below, h.kept.mono hs⟩
theorem Fr.lower {lo' : Nat} (h : Fr w w1 lo K) (hl : lo' ≤ lo) : Fr w w1 lo' K := ⟨h.below.mono hl, h.kept⟩
end
set_option maxRecDepth 100000 in
theorem letter_t (w : World) : Calls Tryz.prog 80 #[.int .u8 116] w fun e w' => e = .returned (.bool true) ∧ w' = w := by
  go_enter Tryz.func80, Tryz.ntmps80
  go_wp2
  go_ret
  exact ⟨rfl, rfl⟩
set_option maxRecDepth 100000 in
theorem run_t (w : World) : Calls Tryz.prog 66 #[.string ⟨#[116]⟩, .int .i64 0] w fun e w' => e = .returned (.int .i64 1) ∧ w' = w := by
  go_enter Tryz.func66, Tryz.ntmps66
  go_wp2
  go_loop [1] (fun v => v = .int .i64 0 ∨ v = .int .i64 1) (fun v => 1 - (intOf v).toNat)
  case atStart => exact .inl rfl
  case round =>
    rcases hrel with rfl | rfl
    · go_wp2_with (first
        | (go_at_call 80; refine (letter_t _).mono ?_; rintro e w' ⟨rfl, rfl⟩))
      go_round
      case rel => exact .inr rfl
      case measure => simp [intOf]
    · go_wp2_with (first
        | (go_at_call 80; refine (letter_t _).mono ?_; rintro e w' ⟨rfl, rfl⟩))
      go_ret
      exact ⟨rfl, rfl⟩
set_option maxRecDepth 100000 in
theorem name_t (w : World) : Calls Tryz.prog 44 #[.string ⟨#[116]⟩] w fun e w' => e = .returned (.bool true) ∧ w' = w := by
  go_enter Tryz.func44, Tryz.ntmps44
  go_wp2_with (first
    | (go_at_call 66; refine (run_t _).mono ?_; rintro e w' ⟨rfl, rfl⟩))
  go_ret
  exact ⟨rfl, rfl⟩
def fileName : ByteArray := ⟨#[116, 46, 48, 48, 48, 48, 48, 48, 48, 48, 48]⟩
set_option maxRecDepth 100000 in
set_option maxHeartbeats 1000000 in
theorem name_file (w : World) : Calls Tryz.prog 109 #[.string fileName] w fun e w' => e = .returned (.bool true) ∧ w' = w := by
  unfold fileName
  go_enter Tryz.func109, Tryz.ntmps109
  go_wp2
  go_loop [7] (fun v => ∃ k : Nat, k ≤ 11 ∧ v = .int .i64 k) (fun v => 11 - (intOf v).toNat)
  case atStart => exact ⟨0, by omega, rfl⟩
  case round =>
    obtain ⟨k, hk, rfl⟩ := hrel
    by_cases hlt : k < 11
    · have h11 : k = 0 ∨ k = 1 ∨ k = 2 ∨ k = 3 ∨ k = 4 ∨ k = 5 ∨ k = 6 ∨ k = 7 ∨ k = 8 ∨ k = 9 ∨ k = 10 := by omega
      clear hlt hk
      rcases h11 with rfl | rfl | rfl | rfl | rfl | rfl | rfl | rfl | rfl | rfl | rfl
      all_goals (
        go_wp2
        go_round
        case rel => exact ⟨_, (by decide : _ + 1 ≤ 11), rfl⟩
        case measure => simp [intOf])
    · obtain rfl : k = 11 := by omega
      clear hlt hk
      go_wp2
      go_ret
      exact ⟨rfl, rfl⟩
end Go.Proofs.YtadaoplmicghcaaGreatDoor.Aw
namespace Go.Proofs.YtadaoplmicghcaaGreatDoor.Aw
open Go.RowKit Go.Maps Go.Sort Go.Shelf Go.Proofs.YtadaoplmicghcaaGreatDoorW.PrintWords Go.Proofs.YtadaoplmicghcaaGreatDoorW.PrintLast Go.Proofs.YtadaoplmicghcaaGreatDoorW.PrintMore
set_option linter.unusedVariables false
set_option linter.unusedSimpArgs false
theorem rep8 : (Lib.repeatL (⟨#[48]⟩ : ByteArray).data.toList 8).toArray = #[48, 48, 48, 48, 48, 48, 48, 48] := by decide
set_option maxRecDepth 100000 in
set_option maxHeartbeats 2000000 in
theorem path_calls (w : World) (l : Nat) (c1 : w.cell? ⟨l, 1, none⟩ = some (.string ⟨#[116]⟩)) (hl : l < w.heap.size) :
    Calls Tryz.prog 83 #[.pointer (some ⟨l, 0, none⟩), .int .i64 0] w fun e w' => e = .returned (.string fileName) ∧ Below w.heap.size w w' := by
  go_enter Tryz.func83, Tryz.ntmps83
  go_upto_region 2 with (first
    | (go_at_call 98; refine (Tryz.strconv_Itoa_small 0 (by decide) _).mono ?_; rintro e w' ⟨rfl, rfl⟩))
  have hd : (Lib.decDigits 0).toArray = #[48] := by unfold Lib.decDigits; simp
  rw [hd]
  go_region_with (go_at_call 99; refine (Tryz.strings_Repeat ⟨#[48]⟩ 8 _ (by decide) (by decide)).mono ?_; rw [rep8]; rintro e w2 ⟨rfl, hb⟩; have c1b := keeps hb c1 hl; have HB2 := Aside0.mk hb; clear hb)
  all_goals
    go_wp2
    go_ret
    exact ⟨rfl, (Below.refl w'.heap.size w').drew.trans (show Below w'.heap.size w'.drew w2 from HB2.out)⟩
section
open Go.Maps Go.Sort Go.Shelf
theorem sorts (m : Nat) : AnyZ.SortsIn Tryz.prog Tryz.sorted90_ren Fence.wide m :=
  ⟨fun blk off cap ss W hH hblk hsz => callsIn_wide.2 (AnyM.slices_Sort_string Tryz.sort105 blk off cap ss W hH hblk hsz),
   fun p cap W => callsIn_wide.2 (AnyM.slices_Sort_string_none Tryz.sort105 p cap W)⟩

theorem maps_Keys (mb : Option Nat) (W : World) : CallsIn Fence.wide 5 Tryz.prog 110 #[.map mb] W fun e w' => e = .returned (.func (.func 127) #[] #[.pointer (some ⟨W.heap.size, 0, none⟩)]) ∧ w' = W.alloc (.cells #[.map mb] 118) :=
  AnyZ.keys_in Tryz.keys110 Fence.wide 5 trivial rfl mb W

set_option maxHeartbeats 1000000 in
theorem sorted_Keys {H : Type} (b nn : Nat) (D0 : DataW H) (R : Value → Option (DataW H × List MemPlace)) (w : World) (hown : w.ownsMap Tryz.prog 9 R b nn D0) (hmax : Maps.size D0 ≤ maxLen) (hbytes : Maps.size D0 * 16 ≤ 140737488355328) :
    CallsIn Fence.wide 5 Tryz.prog 90 #[.func (.func 127) #[] #[.pointer (some ⟨w.heap.size, 0, none⟩)]] (w.alloc (.cells #[.map (some b)] 118)) fun e w' => ∃ (v : Value) (ss : List (List UInt8)), e = .returned v ∧ ss.Perm (strKeys D0) ∧
      w'.ownsRow (w.alloc (.cells #[.map (some b)] 118)).heap.size 9 1 v ss.length ((ss.mergeSort (fun x y => decide (x ≤ y))).map encStr) ∧ (v = .slice none 0 0 ↔ ss = []) ∧ Below (w.alloc (.cells #[.map (some b)] 118)).heap.size (w.alloc (.cells #[.map (some b)] 118)) w' := by
  have hbl := hown.lt
  have hseq : SeqGives Fence.wide 2 Tryz.prog 127 #[.pointer (some ⟨w.heap.size, 0, none⟩)] encStr (fun ss => ss.Perm (strKeys D0)) (Maps.size D0) (w.alloc (.cells #[.map (some b)] 118)) :=
    AnyZ.keys_gives (ρ := Tryz.keys110_ren) { Tryz.keys110 with } Fence.wide _ trivial rfl (by omega) w.heap.size b nn D0 _ (by simp) (by simp) (by
      obtain ⟨es, clock, hb, Ft, hs, hD⟩ := hown
      exact ⟨es, clock, (Below.heap_alloc _ _ b hbl).trans hb, Ft, hs, hD⟩)
  exact AnyZ.sorted_in Tryz.sorted90 Fence.wide 5 trivial trivial trivial trivial rfl (by omega) (sorts _) (enters_of Tryz.func105 (by kernel_rfl) rfl) 127 #[.pointer (some ⟨w.heap.size, 0, none⟩)] trivial (enters_of Tryz.func127 (by kernel_rfl) rfl) _ _ hmax hbytes _ hseq
end
/-- A disk without files: its cell at d, its map at m. -/
structure Dk0 (w : World) (d m : Nat) : Prop where
  cell : w.heap[d]? = some (.cells #[.map (some m), .int .i64 0] 120 (0, 0))
  map : w.heap[m]? = some (.map #[] 0)
theorem Dk0.below {w w' : World} {d m : Nat} (z : Dk0 w d m) (h : Below w.heap.size w w') : Dk0 w' d m := ⟨(h.block _ (blk_lt z.cell)).trans z.cell, (h.block _ (blk_lt z.map)).trans z.map⟩
def noRead : Value → Option (DataW Unit × List MemPlace) := fun _ => none
theorem Dk0.owns {w : World} {d m : Nat} (z : Dk0 w d m) : w.ownsMap Tryz.prog 9 noRead m 0 (.map []) :=
  ⟨#[], 0, z.map, ⟨by simp, MapKept.stamped_empty 0, by simp⟩, by simp, rfl⟩
set_option maxRecDepth 100000 in
set_option maxHeartbeats 2000000 in
theorem names_calls (w : World) (d m : Nat) (z : Dk0 w d m) : Calls Tryz.prog 94 #[.pointer (some ⟨d, 0, none⟩)] w fun e w' => e = .returned (.slice none 0 0) ∧ Below w.heap.size w w' := by
  have hown := z.owns
  have c0 := blk_cell z.cell 0
  simp at c0
  refine (callsIn_wide (n := 6)).1 ?_
  have hfK : Fence.wide.fn 110 := trivial
  have hfS : Fence.wide.fn 90 := trivial
  refine callsIn_of_wp Tryz.func94 rfl trivial ?_ rfl
  simp only [Tryz.ntmps94, List.size_toArray, List.length_cons, List.length_nil, Nat.reduceAdd, Nat.reduceSub, Array.replicate_succ, Array.replicate_zero, List.push_toArray, List.append_toArray, List.nil_append, List.cons_append]
  gi_wp2_with (first
    | (gi_at_call 110; refine (maps_Keys _ _).mono ?_; rintro e w' ⟨rfl, rfl⟩)
    | (gi_at_call 90; refine (sorted_Keys m 0 _ noRead w hown (by simp [Maps.size]) (by simp [Maps.size])).mono ?_; rintro e w' ⟨v, ss, rfl, hS, hrow, hnil, hb⟩))
  go_ret
  have hs : ss = [] := by simpa [strKeys] using hS
  exact ⟨by rw [hnil.2 hs]; rfl, ((Below.refl _ w).alloc (Nat.le_refl _) _).trans (hb.mono (by simp))⟩
end Go.Proofs.YtadaoplmicghcaaGreatDoor.Aw
namespace Go.Proofs.YtadaoplmicghcaaGreatDoor.Aw
open Go.RowKit Go.Proofs.YtadaoplmicghcaaGreatDoorW.PrintWords Go.Proofs.YtadaoplmicghcaaGreatDoorW.PrintLast Go.Proofs.YtadaoplmicghcaaGreatDoorW.PrintMore
set_option linter.unusedVariables false
set_option linter.unusedSimpArgs false
theorem al_size (w : World) (o : Obj) : (w.alloc o).heap.size = w.heap.size + 1 := by show (w.heap.push o).size = _; simp
theorem al_new {w : World} {o : Obj} {n : Nat} (h : w.heap.size = n) : (w.alloc o).heap[n]? = some o := by subst h; show (w.heap.push o)[_]? = _; simp
theorem al_old {w : World} {o x : Obj} {k : Nat} (h : w.heap[k]? = some x) : (w.alloc o).heap[k]? = some x := by
  have hk := blk_lt h
  rw [← h]; show (w.heap.push o)[_]? = _
  rw [Array.getElem?_push_lt hk, Array.getElem?_eq_getElem hk]
theorem set_same {w : World} {g i : Nat} {t : TypeId} {cs : Array Value} {u : Value} (h : w.heap[g]? = some (.cells cs t (0, 0))) (hi : cs[i]? = some u) : w.setCell ⟨g, i, none⟩ u = w := by
  have hm : ∀ f : Obj → Obj, f (.cells cs t (0, 0)) = .cells cs t (0, 0) → w.heap.modify g f = w.heap := by
    intro f hf
    refine Array.ext_getElem? fun k => ?_
    rw [Array.getElem?_modify]
    split
    · rename_i e
      subst e
      rw [h]
      simp [hf]
    · rfl
  have hc : cs.setIfInBounds i u = cs := by
    refine Array.ext_getElem? fun k => ?_
    rw [Array.getElem?_setIfInBounds]
    split
    · rename_i e
      subst e
      split
      · exact hi.symm
      · rename_i hn
        rw [Array.getElem?_eq_none (by omega)] at hi
        cases hi
    · rfl
  unfold World.setCell
  rw [hm _ (by simp [hc])]
set_option maxRecDepth 100000 in
theorem disk_new (w : World) : Calls Tryz.prog 22 #[] w fun e w' => e = .returned (.pointer (some ⟨w.heap.size + 1, 0, none⟩)) ∧ Dk0 w' (w.heap.size + 1) w.heap.size ∧ w'.heap.size = w.heap.size + 2 ∧ Below w.heap.size w w' := by
  have hmm := @run_makeMap Tryz.prog
  go_enter Tryz.func22, Tryz.ntmps22
  go_wp2
  go_ret
  exact ⟨by simp, ⟨al_new (al_size _ _), al_old (al_new rfl)⟩, by rw [al_size, al_size], below_alloc (below_alloc (Below.refl _ _) _) _⟩
/-- A log that has written nothing, in the block l. -/
def logCells (d : Nat) (size count : Int) : Array Value := #[.pointer (some ⟨d, 0, none⟩), .string ⟨#[116]⟩, .int .i64 65536, .int .i64 0, .int .i64 size, .int .i64 count, .int .i64 0]
set_option maxRecDepth 100000 in
theorem numbers_calls (w : World) (l d m : Nat) (z : Dk0 w d m) (hl : w.heap[l]? = some (.cells (logCells d 0 0) 144 (0, 0))) : Calls Tryz.prog 81 #[.pointer (some ⟨l, 0, none⟩)] w fun e w' => e = .returned (.slice none 0 0) ∧ Below w.heap.size w w' := by
  have c0 : w.cell? ⟨l, 0, none⟩ = some (.pointer (some ⟨d, 0, none⟩)) := blk_cell hl 0
  go_enter Tryz.func81, Tryz.ntmps81
  go_wp2_with (go_at_call 94; refine (names_calls _ _ _ z).mono ?_; rintro e w' ⟨rfl, hb⟩; have HB := Aside0.mk hb; clear hb)
  go_loop [3, 16] (fun l v => l = .slice none 0 0 ∧ v = .int .i64 0) (fun _ _ => 0)
  case atStart => exact ⟨rfl, rfl⟩
  case round =>
    obtain ⟨rfl, rfl⟩ := hrel
    go_wp2
    go_ret
    exact ⟨by simp, HB.out⟩
set_option maxRecDepth 100000 in
theorem find_calls (w : World) (l d m : Nat) (z : Dk0 w d m) (hl : w.heap[l]? = some (.cells (logCells d 0 0) 144 (0, 0))) : Calls Tryz.prog 67 #[.pointer (some ⟨l, 0, none⟩)] w fun e w' => e = .returned (.agg #[.bool false, .slice none 0 0, .slice none 0 0]) ∧ Below w.heap.size w w' := by
  have hlt := blk_lt hl
  go_enter Tryz.func67, Tryz.ntmps67
  go_wp2_with (go_at_call 81; refine (numbers_calls _ _ _ _ (z.below (below_alloc (below_alloc (Below.refl _ _) _) _)) (al_old (al_old hl))).mono ?_; rintro e w' ⟨rfl, hb⟩; have HB := Aside0.mk hb; clear hb)
  have b2 : w'.heap[w.heap.size]? = some (.cells #[.bool false, .slice none 0 0, .slice none 0 0] 111 (0, 0)) := (HB.out.block _ (by rw [al_size, al_size]; omega)).trans (al_old (al_new rfl))
  have b3 : w'.heap[w.heap.size + 1]? = some (.cells #[.bool false, .slice none 0 0, .slice none 0 0] 111 (0, 0)) := (HB.out.block _ (by rw [al_size, al_size]; omega)).trans (al_new (al_size _ _))
  have bl : w'.heap[l]? = some (.cells (logCells d 0 0) 144 (0, 0)) := (HB.out.block _ (by rw [al_size, al_size]; omega)).trans (al_old (al_old hl))
  have f0 : w'.cell? ⟨w.heap.size + 1, 0, none⟩ = some (.bool false) := blk_cell b3 0
  have f1 : w'.cell? ⟨w.heap.size + 1, 1, none⟩ = some (.slice none 0 0) := blk_cell b3 1
  have f2 : w'.cell? ⟨w.heap.size + 1, 2, none⟩ = some (.slice none 0 0) := blk_cell b3 2
  have g0 : w'.cell? ⟨w.heap.size, 0, none⟩ = some (.bool false) := blk_cell b2 0
  have g1 : w'.cell? ⟨w.heap.size, 1, none⟩ = some (.slice none 0 0) := blk_cell b2 1
  have g2 : w'.cell? ⟨w.heap.size, 2, none⟩ = some (.slice none 0 0) := blk_cell b2 2
  have l5 : w'.cell? ⟨l, 5, none⟩ = some (.int .i64 0) := blk_cell bl 5
  have l6 : w'.cell? ⟨l, 6, none⟩ = some (.int .i64 0) := blk_cell bl 6
  have z5 := blk_frozen bl 5
  have z6 := blk_frozen bl 6
  have z0 := blk_frozen b2 0
  have z1 := blk_frozen b2 1
  have z2 := blk_frozen b2 2
  go_loop [16] (fun v => v = .int .i64 0) (fun _ => 0)
  case atStart => rfl
  case round =>
    subst hrel
    go_wp2
    go_region
    rw [set_same (i := 5) (u := .int .i64 0) bl rfl, set_same (i := 6) (u := .int .i64 0) bl rfl]
    go_wp2
    rw [set_same (i := 0) (u := .bool false) b2 rfl, set_same (i := 1) (u := .slice none 0 0) b2 rfl, set_same (i := 2) (u := .slice none 0 0) b2 rfl]
    have hbw : Below w.heap.size w w'.drew := (below_alloc (below_alloc (Below.refl _ _) _) _ |>.trans (HB.out.mono (by rw [al_size, al_size]; omega)) : Below w.heap.size w w').trans (Below.refl _ _).drew
    refine bodyPost_ret (v := .agg #[.bool false, .slice none 0 0, .slice none 0 0]) ?_ rfl ⟨rfl, hbw⟩
    simp [results, Tryz.results67, go_sem, g0, g1, g2]
def foundV : Value := .agg #[.bool false, .slice none 0 0, .slice none 0 0]
set_option maxRecDepth 100000 in
theorem walOpen_calls (w : World) (d m : Nat) (z : Dk0 w d m) : Calls Tryz.prog 45 #[.pointer (some ⟨d, 0, none⟩), .string ⟨#[116]⟩, .int .i64 65536] w fun e w' => e = .returned (.tuple #[.pointer (some ⟨w.heap.size + 1, 0, none⟩), foundV, .nilIface]) ∧ w'.heap[w.heap.size + 1]? = some (.cells (logCells d 0 0) 144 (0, 0)) ∧ Below w.heap.size w w' := by
  go_enter Tryz.func45, Tryz.ntmps45
  go_wp2_with (first
    | (go_at_call 44; refine (name_t _).mono ?_; rintro e w1 ⟨rfl, hw⟩; subst w1)
    | (go_at_call 67; refine (find_calls _ _ d m (z.below (below_alloc (below_alloc (Below.refl _ _) _) _)) (al_new (al_size _ _))).mono ?_; rintro e w' ⟨rfl, hb⟩; have HB := Aside0.mk hb; have b2 := (hb.block w.heap.size (by rw [al_size, al_size]; omega)).trans (al_old (al_new rfl)); have g0 := blk_cell b2 0; have g1 := blk_cell b2 1; have g2 := blk_cell b2 2; have z0 := blk_frozen b2 0; have z1 := blk_frozen b2 1; have z2 := blk_frozen b2 2; have b2 := Lib.hid b2; clear hb))
  have hbw : Below w.heap.size w w' := below_alloc (below_alloc (Below.refl _ _) _) _ |>.trans (HB.out.mono (by rw [al_size, al_size]; omega))
  rw [set_same (i := 0) (u := .bool false) b2.out rfl, set_same (i := 1) (u := .slice none 0 0) b2.out rfl, set_same (i := 2) (u := .slice none 0 0) b2.out rfl]
  refine bodyPost_ret (v := .tuple #[.pointer (some ⟨w.heap.size + 1, 0, none⟩), foundV, .nilIface]) ?_ rfl ⟨rfl, (HB.out.block _ (by rw [al_size, al_size]; omega)).trans (al_new (al_size _ _)), hbw⟩
  simp [results, Tryz.results45, go_sem, g0, g1, g2, foundV]
set_option maxRecDepth 100000 in
theorem play_none (w : World) (t : Option Addr) : Calls Tryz.prog 46 #[.pointer t, .slice none 0 0] w fun e w' => e = .returned (.tuple #[]) ∧ w' = w := by
  go_enter Tryz.func46, Tryz.ntmps46
  go_wp2
  go_loop [4] (fun v => v = .int .i64 0) (fun _ => 0)
  case atStart => rfl
  case round =>
    subst hrel
    go_wp2
    exact bodyPost_end (v := .tuple #[]) (by simp [results, Tryz.results46, go_sem]) rfl ⟨rfl, rfl⟩
/-- A table of nothing: its cells at t, its log at l, its map at m2, its disk at d. -/
structure Tb0 (w : World) (t l m2 d m : Nat) : Prop where
  tab : w.heap[t]? = some (.cells #[.pointer (some ⟨l, 0, none⟩), .map (some m2)] 116 (0, 0))
  log : w.heap[l]? = some (.cells (logCells d 0 0) 144 (0, 0))
  at_ : w.heap[m2]? = some (.map #[] 0)
  dk : Dk0 w d m
set_option maxRecDepth 100000 in
theorem kvOpen_calls (w : World) (d m : Nat) (z : Dk0 w d m) : Calls Tryz.prog 21 #[.pointer (some ⟨d, 0, none⟩), .string ⟨#[116]⟩] w fun e w' => ∃ t l m2, e = .returned (.tuple #[.pointer (some ⟨t, 0, none⟩), .nilIface]) ∧ Tb0 w' t l m2 d m ∧ w.heap.size ≤ t ∧ w.heap.size ≤ l ∧ w.heap.size ≤ m2 ∧ Below w.heap.size w w' := by
  have hmm := @run_makeMap Tryz.prog
  go_enter Tryz.func21, Tryz.ntmps21
  go_wp2_with (first
    | (go_at_call 44; refine (name_t _).mono ?_; rintro e w1 ⟨rfl, hw⟩; subst w1)
    | (go_at_call 45; refine (walOpen_calls _ d m z).mono ?_; unfold foundV; rintro e w' ⟨rfl, hl, hb⟩; have HL := Lib.hid hl; have HB := Aside0.mk hb; clear hl hb)
    | (go_at_call 46; refine (play_none _ _).mono ?_; rintro e w' ⟨rfl, rfl⟩))
  go_loop [42] (fun v => v = .int .i64 0) (fun _ => 0)
  case atStart => rfl
  case round =>
    subst hrel
    go_wp2
    go_ret2
    have hs := HB.out.size
    refine ⟨w'.heap.size + 1 + 1, by simp, w.heap.size + 1, w'.heap.size + 1, ⟨al_new (by rw [al_size, al_size]), al_old (al_old (al_old HL.out)), al_old (al_new (al_size _ _)), ?_⟩, by omega, by omega, by omega, below_alloc (below_alloc (below_alloc HB.out _) _) _⟩
    exact z.below (below_alloc (below_alloc (below_alloc HB.out _) _) _)
end Go.Proofs.YtadaoplmicghcaaGreatDoor.Aw
