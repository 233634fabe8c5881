/- Towards TopSources; no condition. Texts laid together, without what none of them names (wip/block/prune.py): Shelf, SxA, SxB, SxC, SxD, SxE, SxF, SxG, SxH, SxI, SxJ, SxK, SxL, SxM, SxN, SxO, SxP, SxQ, SxR, SxS, SxU, SxV. -/
import Derived.Shelf.Strings.Builder1
import Derived.Shelf.Strings.Builder2
import Derived.Shelf.Strings.OnBuilder
import Derived.Shelf.Small.Bits
import Derived.Shelf.Small.Wraps
import Derived.Shelf.Strconv.Atoi
import Derived.Shelf.Strconv.Itoa0
import Derived.Shelf.Strconv.Itoa1
import Derived.Shelf.LaysM
import Derived.Shelf.Strconv.Itoa2
import Derived.Shelf.Strconv.Itoa3
import Derived.Shelf.Strings.Search1
import Derived.Shelf.Strings.Search2
import Derived.Shelf.Strings.Search3
import Derived.Shelf.Strings.Cut
import Derived.Shelf.Strings.Count
import Derived.Shelf.Strings.Shaped
import Derived.Shelf.GgClosure.StringsIndexFunc
import Derived.Ground.GgwProg
import Derived.Shelf.GgClosure.StringsIndexFuncTop
import Derived.Shelf.Strings.Prefix
import Derived.Shelf.Strings.Split
import Derived.Shelf.Bits.Mul64
import Derived.Shelf.Unicode.DecodeSlow
import Derived.Test.YthjldemjipnmdaaGreatDoorProg
import Derived.Below
import Derived.Orders
import Derived.Laws.Cells
import Derived.Laws.Rows
import Derived.Laws.Tables
import Derived.Laws.AppendOwn
import Derived.Laws.CopyRow
import Derived.WalkKit
import Derived.Laws.IdiomStrings
import Derived.Laws.BytesArg
import Derived.Laws.OwnMore
import Derived.Scope
import Derived.Deep.LoopGhost
import Derived.ScopeJumps
namespace Go.Proofs
open Go.Shelf
def Tryz.lays156_ren : Go.Shelf.Ren := ⟨fun | 156 => 71 | 165 => 132 | 166 => 133 | 169 => 134 | 240 => 184 | 241 => 185 | 276 => 226 | 277 => 227 | n => n, fun | 31 => 107 | 9 => 9 | 3 => 3 | 4 => 4 | 0 => 0 | 20 => 20 | 72 => 216 | 76 => 220 | 70 => 214 | 37 => 31 | 75 => 219 | 127 => 271 | 164 => 302 | 5 => 5 | 80 => 222 | n => n, fun | n => n⟩
theorem Tryz.lays156 : Go.Proofs.Lays.n156 Tryz.prog Tryz.lays156_ren := {
 mixed := by kernel_rfl
 f156 := Tryz.func71.trans (congrArg some (by kernel_rfl))
 f165 := Tryz.func132.trans (congrArg some (by kernel_rfl))
 f166 := Tryz.func133.trans (congrArg some (by kernel_rfl))
 f169 := Tryz.func134.trans (congrArg some (by kernel_rfl))
 f240 := Tryz.func184.trans (congrArg some (by kernel_rfl))
 f241 := Tryz.func185.trans (congrArg some (by kernel_rfl))
 f276 := Tryz.func226.trans (congrArg some (by kernel_rfl))
 f277 := Tryz.func227.trans (congrArg some (by kernel_rfl))
 t0 := Tryz.underlying0
 a0 := Tryz.isAgg0
 z0 := Tryz.sizeOf0
 v0 := Tryz.zeroValue0
 t3 := Tryz.underlying3
 a3 := Tryz.isAgg3
 z3 := Tryz.sizeOf3
 v3 := Tryz.zeroValue3
 t4 := Tryz.underlying4
 a4 := Tryz.isAgg4
 z4 := Tryz.sizeOf4
 v4 := Tryz.zeroValue4
 t9 := Tryz.underlying9
 a9 := Tryz.isAgg9
 z9 := Tryz.sizeOf9
 v9 := Tryz.zeroValue9
 t20 := Tryz.underlying20
 a20 := Tryz.isAgg20
 z20 := Tryz.sizeOf20
 v20 := Tryz.zeroValue20
 t31 := Tryz.underlying107
 a31 := Tryz.isAgg107
 z31 := Tryz.sizeOf107
 v31 := Tryz.zeroValue107
 t37 := Tryz.underlying31
 a37 := Tryz.isAgg31
 z37 := Tryz.sizeOf31
 v37 := Tryz.zeroValue31
 t70 := Tryz.underlying214
 a70 := Tryz.isAgg214
 z70 := Tryz.sizeOf214
 v70 := Tryz.zeroValue214
 t72 := Tryz.underlying216
 a72 := Tryz.isAgg216
 z72 := Tryz.sizeOf216
 v72 := Tryz.zeroValue216
 t75 := Tryz.underlying219
 a75 := Tryz.isAgg219
 z75 := Tryz.sizeOf219
 v75 := Tryz.zeroValue219
 t76 := Tryz.underlying220
 a76 := Tryz.isAgg220
 z76 := Tryz.sizeOf220
 v76 := Tryz.zeroValue220
 t127 := Tryz.underlying271
 a127 := Tryz.isAgg271
 z127 := Tryz.sizeOf271
 v127 := Tryz.zeroValue271
 t164 := Tryz.underlying302
 a164 := Tryz.isAgg302
 z164 := Tryz.sizeOf302
 v164 := Tryz.zeroValue302 }
theorem Tryz.Builder_Extra_156 : Builder.Extra Tryz.prog Tryz.lays156_ren := {
 sizeBuilder := by kernel_rfl
 liesBuilder := by kernel_rfl
 t5 := Tryz.underlying5
 a5 := Tryz.isAgg5
 z5 := Tryz.sizeOf5
 v5 := Tryz.zeroValue5
 infoByte := by kernel_rfl
 cellsByte := by kernel_rfl
 sizeByte := by kernel_rfl
 neB5 := by decide }
open Go.RowKit in
/-- No element: the empty string; the world is as it was. (Whatever the slice's address and capacity: a nil slice too.) (LAID: no walk: one application.) -/
theorem Tryz.strings_Join_none (a : Option Addr) (c : Nat) (sep : ByteArray) (w : World) :
  Calls Tryz.prog 71 #[.slice a 0 c, .string sep] w fun e w' => e = .returned (.string ⟨#[]⟩) ∧ w' = w := Any.strings_Join_none Tryz.lays156 Tryz.Builder_Extra_156 a c sep w
open Go.RowKit in
/-- strings.Join: "Join concatenates the elements of its first argument to create a single string. The separator string sep is placed between elements in the resulting string.": HOWEVER MANY ELEMENTS. Below the heap's end the world is as it was. (LAID: no walk: one application.) -/
theorem Tryz.strings_Join (bk o c : Nat) (xs : List ByteArray) (sep : ByteArray) (w : World) (hcells : ∀ (j : Nat) x, xs[j]? = some x → w.cell? ⟨bk, o + j, none⟩ = some (.string x)) (hbk : bk < w.heap.size) (hN : xs.length ≤ 140737488355328) (hcap : xs.length ≤ c) (hlen : (Lib.join (xs.map (·.data.toList)) sep.data.toList).length ≤ 140737488355328) :
  Calls Tryz.prog 71 #[.slice (some ⟨bk, o, none⟩) xs.length c, .string sep] w fun e w' => e = .returned (.string ⟨(Lib.join (xs.map (·.data.toList)) sep.data.toList).toArray⟩) ∧ Below w.heap.size w w' := Any.strings_Join Tryz.lays156 Tryz.Builder_Extra_156 bk o c xs sep w hcells hbk hN hcap hlen
def Tryz.lays103_ren : Go.Shelf.Ren := ⟨fun | 103 => 121 | 210 => 169 | 206 => 195 | n => n, fun | 9 => 9 | 4 => 4 | 24 => 45 | 3 => 3 | n => n, fun | n => n⟩
theorem Tryz.lays103 : Go.Proofs.Lays.n103 Tryz.prog Tryz.lays103_ren := {
 mixed := by kernel_rfl
 f103 := Tryz.func121.trans (congrArg some (by kernel_rfl))
 f206 := Tryz.func195.trans (congrArg some (by kernel_rfl))
 f210 := Tryz.func169.trans (congrArg some (by kernel_rfl))
 t3 := Tryz.underlying3
 a3 := Tryz.isAgg3
 z3 := Tryz.sizeOf3
 v3 := Tryz.zeroValue3
 t4 := Tryz.underlying4
 a4 := Tryz.isAgg4
 z4 := Tryz.sizeOf4
 v4 := Tryz.zeroValue4
 t9 := Tryz.underlying9
 a9 := Tryz.isAgg9
 z9 := Tryz.sizeOf9
 v9 := Tryz.zeroValue9
 t24 := Tryz.underlying45
 a24 := Tryz.isAgg45
 z24 := Tryz.sizeOf45
 v24 := Tryz.zeroValue45 }
open Go.RowKit in
/-- strings.CutPrefix: "CutPrefix returns s without the provided leading prefix string and reports whether it found the prefix. If s doesn't start with prefix, CutPrefix returns s, false. If prefix is the empty string, CutPrefix returns s, true.": IT RETURNS '(Lib.trimPrefix s p, Lib.hasPrefix s p)'; the world is as it was. (LAID: no walk: one application.) -/
theorem Tryz.strings_CutPrefix (s p : ByteArray) (w : World) :
  Calls Tryz.prog 121 #[.string s, .string p] w fun e w' => e = .returned (.tuple #[.string ⟨(Lib.trimPrefix s.data.toList p.data.toList).toArray⟩, .bool (Lib.hasPrefix s.data.toList p.data.toList)]) ∧ w' = w := Any.strings_CutPrefix Tryz.lays103 s p w
def Tryz.lays104_ren : Go.Shelf.Ren := ⟨fun | 104 => 122 | 211 => 170 | 207 => 199 | n => n, fun | 9 => 9 | 4 => 4 | 24 => 45 | 3 => 3 | n => n, fun | n => n⟩
theorem Tryz.lays104 : Go.Proofs.Lays.n104 Tryz.prog Tryz.lays104_ren := {
 mixed := by kernel_rfl
 f104 := Tryz.func122.trans (congrArg some (by kernel_rfl))
 f207 := Tryz.func199.trans (congrArg some (by kernel_rfl))
 f211 := Tryz.func170.trans (congrArg some (by kernel_rfl))
 t3 := Tryz.underlying3
 a3 := Tryz.isAgg3
 z3 := Tryz.sizeOf3
 v3 := Tryz.zeroValue3
 t4 := Tryz.underlying4
 a4 := Tryz.isAgg4
 z4 := Tryz.sizeOf4
 v4 := Tryz.zeroValue4
 t9 := Tryz.underlying9
 a9 := Tryz.isAgg9
 z9 := Tryz.sizeOf9
 v9 := Tryz.zeroValue9
 t24 := Tryz.underlying45
 a24 := Tryz.isAgg45
 z24 := Tryz.sizeOf45
 v24 := Tryz.zeroValue45 }
open Go.RowKit in
/-- strings.CutSuffix: "CutSuffix returns s without the provided ending suffix string and reports whether it found the suffix. If s doesn't end with suffix, CutSuffix returns s, false. If suffix is the empty string, CutSuffix returns s, true.": IT RETURNS '(Lib.trimSuffix s p, Lib.hasSuffix s p)'; the world is as it was. (LAID: no walk: one application.) -/
theorem Tryz.strings_CutSuffix (s p : ByteArray) (w : World) (hs : s.size ≤ 9223372036854775807) :
  Calls Tryz.prog 122 #[.string s, .string p] w fun e w' => e = .returned (.tuple #[.string ⟨(Lib.trimSuffix s.data.toList p.data.toList).toArray⟩, .bool (Lib.hasSuffix s.data.toList p.data.toList)]) ∧ w' = w := Any.strings_CutSuffix Tryz.lays104 s p w hs
def Tryz.lays172_ren : Go.Shelf.Ren := ⟨fun | 172 => 246 | 244 => 260 | 245 => 261 | 247 => 264 | 279 => 265 | 280 => 266 | 281 => 267 | 282 => 268 | 287 => 272 | 316 => 273 | 171 => 27 | 205 => 274 | 321 => 276 | 322 => 277 | 243 => 68 | 246 => 131 | 283 => 180 | 284 => 181 | 285 => 182 | 286 => 183 | 129 => 222 | 317 => 221 | 318 => 223 | 319 => 224 | 320 => 225 | 337 => 251 | 338 => 252 | n => n, fun | 9 => 9 | 3 => 3 | 75 => 219 | 76 => 220 | 4 => 4 | 5 => 5 | 167 => 330 | 37 => 31 | 0 => 0 | 85 => 331 | 2 => 2 | 168 => 333 | 53 => 230 | 175 => 337 | 46 => 143 | 210 => 340 | 127 => 271 | 145 => 345 | 143 => 343 | 21 => 21 | 171 => 266 | 173 => 269 | 212 => 299 | 51 => 86 | 20 => 20 | 213 => 300 | 232 => 323 | 233 => 324 | 80 => 222 | n => n, fun | 15 => 8 | 16 => 9 | 17 => 3 | 18 => 4 | 19 => 5 | n => n⟩
theorem Tryz.lays172 : Go.Proofs.Lays.n172 Tryz.prog Tryz.lays172_ren := {
 mixed := by kernel_rfl
 f129 := Tryz.func222.trans (congrArg some (by kernel_rfl))
 f171 := Tryz.func27.trans (congrArg some (by kernel_rfl))
 f172 := Tryz.func246.trans (congrArg some (by kernel_rfl))
 f205 := Tryz.func274.trans (congrArg some (by kernel_rfl))
 f243 := Tryz.func68.trans (congrArg some (by kernel_rfl))
 f244 := Tryz.func260.trans (congrArg some (by kernel_rfl))
 f245 := Tryz.func261.trans (congrArg some (by kernel_rfl))
 f246 := Tryz.func131.trans (congrArg some (by kernel_rfl))
 f247 := Tryz.func264.trans (congrArg some (by kernel_rfl))
 f279 := Tryz.func265.trans (congrArg some (by kernel_rfl))
 f280 := Tryz.func266.trans (congrArg some (by kernel_rfl))
 f281 := Tryz.func267.trans (congrArg some (by kernel_rfl))
 f282 := Tryz.func268.trans (congrArg some (by kernel_rfl))
 f283 := Tryz.func180.trans (congrArg some (by kernel_rfl))
 f284 := Tryz.func181.trans (congrArg some (by kernel_rfl))
 f285 := Tryz.func182.trans (congrArg some (by kernel_rfl))
 f286 := Tryz.func183.trans (congrArg some (by kernel_rfl))
 f287 := Tryz.func272.trans (congrArg some (by kernel_rfl))
 f316 := Tryz.func273.trans (congrArg some (by kernel_rfl))
 f317 := Tryz.func221.trans (congrArg some (by kernel_rfl))
 f318 := Tryz.func223.trans (congrArg some (by kernel_rfl))
 f319 := Tryz.func224.trans (congrArg some (by kernel_rfl))
 f320 := Tryz.func225.trans (congrArg some (by kernel_rfl))
 f321 := Tryz.func276.trans (congrArg some (by kernel_rfl))
 f322 := Tryz.func277.trans (congrArg some (by kernel_rfl))
 f337 := Tryz.func251.trans (congrArg some (by kernel_rfl))
 f338 := Tryz.func252.trans (congrArg some (by kernel_rfl))
 t0 := Tryz.underlying0
 a0 := Tryz.isAgg0
 z0 := Tryz.sizeOf0
 v0 := Tryz.zeroValue0
 t2 := Tryz.underlying2
 a2 := Tryz.isAgg2
 z2 := Tryz.sizeOf2
 v2 := Tryz.zeroValue2
 t3 := Tryz.underlying3
 a3 := Tryz.isAgg3
 z3 := Tryz.sizeOf3
 v3 := Tryz.zeroValue3
 t4 := Tryz.underlying4
 a4 := Tryz.isAgg4
 z4 := Tryz.sizeOf4
 v4 := Tryz.zeroValue4
 t5 := Tryz.underlying5
 a5 := Tryz.isAgg5
 z5 := Tryz.sizeOf5
 v5 := Tryz.zeroValue5
 t9 := Tryz.underlying9
 a9 := Tryz.isAgg9
 z9 := Tryz.sizeOf9
 v9 := Tryz.zeroValue9
 t20 := Tryz.underlying20
 a20 := Tryz.isAgg20
 z20 := Tryz.sizeOf20
 v20 := Tryz.zeroValue20
 t21 := Tryz.underlying21
 a21 := Tryz.isAgg21
 z21 := Tryz.sizeOf21
 v21 := Tryz.zeroValue21
 t37 := Tryz.underlying31
 a37 := Tryz.isAgg31
 z37 := Tryz.sizeOf31
 v37 := Tryz.zeroValue31
 t46 := Tryz.underlying143
 a46 := Tryz.isAgg143
 z46 := Tryz.sizeOf143
 v46 := Tryz.zeroValue143
 t51 := Tryz.underlying86
 a51 := Tryz.isAgg86
 z51 := Tryz.sizeOf86
 v51 := Tryz.zeroValue86
 t53 := Tryz.underlying230
 a53 := Tryz.isAgg230
 z53 := Tryz.sizeOf230
 v53 := Tryz.zeroValue230
 t75 := Tryz.underlying219
 a75 := Tryz.isAgg219
 z75 := Tryz.sizeOf219
 v75 := Tryz.zeroValue219
 t76 := Tryz.underlying220
 a76 := Tryz.isAgg220
 z76 := Tryz.sizeOf220
 v76 := Tryz.zeroValue220
 t85 := Tryz.underlying331
 a85 := Tryz.isAgg331
 z85 := Tryz.sizeOf331
 v85 := Tryz.zeroValue331
 t127 := Tryz.underlying271
 a127 := Tryz.isAgg271
 z127 := Tryz.sizeOf271
 v127 := Tryz.zeroValue271
 t143 := Tryz.underlying343
 a143 := Tryz.isAgg343
 z143 := Tryz.sizeOf343
 v143 := Tryz.zeroValue343
 t145 := Tryz.underlying345
 a145 := Tryz.isAgg345
 z145 := Tryz.sizeOf345
 v145 := Tryz.zeroValue345
 t167 := Tryz.underlying330
 a167 := Tryz.isAgg330
 z167 := Tryz.sizeOf330
 v167 := Tryz.zeroValue330
 t168 := Tryz.underlying333
 a168 := Tryz.isAgg333
 z168 := Tryz.sizeOf333
 v168 := Tryz.zeroValue333
 t171 := Tryz.underlying266
 a171 := Tryz.isAgg266
 z171 := Tryz.sizeOf266
 v171 := Tryz.zeroValue266
 t173 := Tryz.underlying269
 a173 := Tryz.isAgg269
 z173 := Tryz.sizeOf269
 v173 := Tryz.zeroValue269
 t175 := Tryz.underlying337
 a175 := Tryz.isAgg337
 z175 := Tryz.sizeOf337
 v175 := Tryz.zeroValue337
 t210 := Tryz.underlying340
 a210 := Tryz.isAgg340
 z210 := Tryz.sizeOf340
 v210 := Tryz.zeroValue340
 t212 := Tryz.underlying299
 a212 := Tryz.isAgg299
 z212 := Tryz.sizeOf299
 v212 := Tryz.zeroValue299
 t213 := Tryz.underlying300
 a213 := Tryz.isAgg300
 z213 := Tryz.sizeOf300
 t232 := Tryz.underlying323
 a232 := Tryz.isAgg323
 z232 := Tryz.sizeOf323
 v232 := Tryz.zeroValue323
 t233 := Tryz.underlying324
 a233 := Tryz.isAgg324
 z233 := Tryz.sizeOf324
 v233 := Tryz.zeroValue324
 g15 := by kernel_rfl
 g16 := by kernel_rfl
 g17 := by kernel_rfl
 g18 := by kernel_rfl
 g19 := by kernel_rfl }
open Go.RowKit in
/-- strconv.Atoi: "Atoi is equivalent to ParseInt(s, 10, 0), converted to type int.": AT A DECIMAL NUMERAL OF AT MOST 18 BYTES: its value, and a nil error. The world behind the call: the one new row that the library's '[]byte(s)' lays. (LAID: no walk: one application.) -/
theorem Tryz.strconv_Atoi (s : ByteArray) (n : Int) (hl : s.size ≤ 18) (h : Lib.atoi s.data.toList = some n) (w : World) :
  Calls Tryz.prog 246 #[.string s] w fun e w' => e = .returned (.tuple #[.int .i64 n, .nilIface]) ∧ ∃ t, w' = Lib.bytesWorld w 5 t := Any.strconv_Atoi Tryz.lays172 s n hl h w
def Tryz.laysM171_ren : Go.Shelf.Ren := ⟨fun | 171 => 27 | 243 => 68 | 246 => 131 | 283 => 180 | 284 => 181 | 285 => 182 | 286 => 183 | 129 => 222 | 317 => 221 | 318 => 223 | 319 => 224 | 320 => 225 | 337 => 251 | 338 => 252 | n => n, fun | 3 => 3 | 9 => 9 | 2 => 2 | 4 => 4 | 171 => 266 | 0 => 0 | 53 => 230 | 37 => 31 | 5 => 5 | 173 => 269 | 212 => 299 | 51 => 86 | 20 => 20 | 213 => 300 | 46 => 143 | 232 => 323 | 233 => 324 | n => n, fun | 17 => 3 | 18 => 4 | 19 => 5 | n => n⟩
theorem Tryz.laysM171 : Go.Proofs.LaysM.n171 Tryz.prog Tryz.laysM171_ren := {
 mixed := by kernel_rfl
 f129 := Tryz.func222.trans (congrArg some (by kernel_rfl))
 f171 := Tryz.func27.trans (congrArg some (by kernel_rfl))
 f243 := Tryz.func68.trans (congrArg some (by kernel_rfl))
 f246 := Tryz.func131.trans (congrArg some (by kernel_rfl))
 f283 := Tryz.func180.trans (congrArg some (by kernel_rfl))
 f284 := Tryz.func181.trans (congrArg some (by kernel_rfl))
 f285 := Tryz.func182.trans (congrArg some (by kernel_rfl))
 f286 := Tryz.func183.trans (congrArg some (by kernel_rfl))
 f317 := Tryz.func221.trans (congrArg some (by kernel_rfl))
 f318 := Tryz.func223.trans (congrArg some (by kernel_rfl))
 f319 := Tryz.func224.trans (congrArg some (by kernel_rfl))
 f320 := Tryz.func225.trans (congrArg some (by kernel_rfl))
 f337 := Tryz.func251.trans (congrArg some (by kernel_rfl))
 f338 := Tryz.func252.trans (congrArg some (by kernel_rfl))
 t0 := Tryz.underlying0
 a0 := Tryz.isAgg0
 z0 := Tryz.sizeOf0
 v0 := Tryz.zeroValue0
 t2 := Tryz.underlying2
 a2 := Tryz.isAgg2
 z2 := Tryz.sizeOf2
 v2 := Tryz.zeroValue2
 t3 := Tryz.underlying3
 a3 := Tryz.isAgg3
 z3 := Tryz.sizeOf3
 v3 := Tryz.zeroValue3
 t4 := Tryz.underlying4
 a4 := Tryz.isAgg4
 z4 := Tryz.sizeOf4
 v4 := Tryz.zeroValue4
 t5 := Tryz.underlying5
 a5 := Tryz.isAgg5
 z5 := Tryz.sizeOf5
 v5 := Tryz.zeroValue5
 t9 := Tryz.underlying9
 a9 := Tryz.isAgg9
 z9 := Tryz.sizeOf9
 v9 := Tryz.zeroValue9
 t20 := Tryz.underlying20
 a20 := Tryz.isAgg20
 z20 := Tryz.sizeOf20
 v20 := Tryz.zeroValue20
 t37 := Tryz.underlying31
 a37 := Tryz.isAgg31
 z37 := Tryz.sizeOf31
 v37 := Tryz.zeroValue31
 t46 := Tryz.underlying143
 a46 := Tryz.isAgg143
 z46 := Tryz.sizeOf143
 v46 := Tryz.zeroValue143
 t51 := Tryz.underlying86
 a51 := Tryz.isAgg86
 z51 := Tryz.sizeOf86
 v51 := Tryz.zeroValue86
 t53 := Tryz.underlying230
 a53 := Tryz.isAgg230
 z53 := Tryz.sizeOf230
 v53 := Tryz.zeroValue230
 t171 := Tryz.underlying266
 a171 := Tryz.isAgg266
 z171 := Tryz.sizeOf266
 v171 := Tryz.zeroValue266
 t173 := Tryz.underlying269
 a173 := Tryz.isAgg269
 z173 := Tryz.sizeOf269
 v173 := Tryz.zeroValue269
 t212 := Tryz.underlying299
 a212 := Tryz.isAgg299
 z212 := Tryz.sizeOf299
 v212 := Tryz.zeroValue299
 t213 := Tryz.underlying300
 a213 := Tryz.isAgg300
 z213 := Tryz.sizeOf300
 t232 := Tryz.underlying323
 a232 := Tryz.isAgg323
 z232 := Tryz.sizeOf323
 v232 := Tryz.zeroValue323
 t233 := Tryz.underlying324
 a233 := Tryz.isAgg324
 z233 := Tryz.sizeOf324
 v233 := Tryz.zeroValue324
 g17 := by kernel_rfl
 g18 := by kernel_rfl
 g19 := by kernel_rfl
 i0 := by kernel_rfl
 i2 := by kernel_rfl
 i3 := by kernel_rfl
 i4 := by kernel_rfl
 i5 := by kernel_rfl
 i9 := by kernel_rfl
 i20 := by kernel_rfl
 i37 := by kernel_rfl
 i46 := by kernel_rfl
 i51 := by kernel_rfl
 i53 := by kernel_rfl
 i171 := by kernel_rfl
 i173 := by kernel_rfl
 i212 := by kernel_rfl
 i232 := by kernel_rfl
 i233 := by kernel_rfl
 m17 := by kernel_rfl
 m18 := by kernel_rfl
 m19 := by kernel_rfl }
open Go.RowKit Go.Sort Go.Lib in
/-- strconv.Itoa: "Itoa is equivalent to FormatInt(int64(i), 10).": i's DECIMAL NUMERAL ('Lib.itoa': a '-' where i is negative, then the digits), FOR EVERY int. The world behind the call: the world before it, new blocks behind the heap (the library's 'var a [24]byte'), draws. (LAID: no walk: one application.) -/
theorem Tryz.strconv_Itoa (n : Int) (h0 : -9223372036854775808 ≤ n) (h1 : n ≤ 9223372036854775807) (w : World) (htab : Lib.TabIs Tryz.prog w "internal/strconv.uint64pow10" .u64 Lib.pow10Tab) :
  Calls Tryz.prog 27 #[.int .i64 n] w fun e w' => e = .returned (.string ⟨(Lib.itoa n).toArray⟩) ∧ ∃ k os, w' = grow (w.drewN k) os := Any.strconv_Itoa Tryz.laysM171 n h0 h1 w htab
def Tryz.lays144_ren : Go.Shelf.Ren := ⟨fun | 144 => 123 | 143 => 171 | 219 => 152 | 217 => 202 | 225 => 203 | 224 => 204 | 267 => 205 | 266 => 234 | 314 => 235 | n => n, fun | 9 => 9 | 4 => 4 | 3 => 3 | 5 => 5 | 46 => 143 | 146 => 307 | 51 => 86 | n => n, fun | 1 => 2 | n => n⟩
theorem Tryz.lays144 : Go.Proofs.Lays.n144 Tryz.prog Tryz.lays144_ren := {
 mixed := by kernel_rfl
 f143 := Tryz.func171.trans (congrArg some (by kernel_rfl))
 f144 := Tryz.func123.trans (congrArg some (by kernel_rfl))
 f217 := Tryz.func202.trans (congrArg some (by kernel_rfl))
 f219 := Tryz.func152.trans (congrArg some (by kernel_rfl))
 f224 := Tryz.func204.trans (congrArg some (by kernel_rfl))
 f225 := Tryz.func203.trans (congrArg some (by kernel_rfl))
 f266 := Tryz.func234.trans (congrArg some (by kernel_rfl))
 f267 := Tryz.func205.trans (congrArg some (by kernel_rfl))
 f314 := Tryz.func235.trans (congrArg some (by kernel_rfl))
 t3 := Tryz.underlying3
 a3 := Tryz.isAgg3
 z3 := Tryz.sizeOf3
 v3 := Tryz.zeroValue3
 t4 := Tryz.underlying4
 a4 := Tryz.isAgg4
 z4 := Tryz.sizeOf4
 v4 := Tryz.zeroValue4
 t5 := Tryz.underlying5
 a5 := Tryz.isAgg5
 z5 := Tryz.sizeOf5
 v5 := Tryz.zeroValue5
 t9 := Tryz.underlying9
 a9 := Tryz.isAgg9
 z9 := Tryz.sizeOf9
 v9 := Tryz.zeroValue9
 t46 := Tryz.underlying143
 a46 := Tryz.isAgg143
 z46 := Tryz.sizeOf143
 v46 := Tryz.zeroValue143
 t51 := Tryz.underlying86
 a51 := Tryz.isAgg86
 z51 := Tryz.sizeOf86
 v51 := Tryz.zeroValue86
 t146 := Tryz.underlying307
 a146 := Tryz.isAgg307
 z146 := Tryz.sizeOf307
 v146 := Tryz.zeroValue307
 g1 := by kernel_rfl }
open Go.RowKit Go.Lib in
/-- strings.Contains: "Contains reports whether substr is within s.": AT A substr OF ONE BYTE c: IT RETURNS 'decide (0 ≤ Lib.indexByte s c)'; the world is as it was. (LAID: no walk: one application.) -/
theorem Tryz.strings_Contains_one (s : ByteArray) (c : UInt8) (w : World) :
  Calls Tryz.prog 123 #[.string s, .string ⟨#[c]⟩] w fun e w' => e = .returned (.bool (decide (0 ≤ Lib.indexByte s.data.toList c))) ∧ w' = w := Any.strings_Contains_one Tryz.lays144 s c w
def Tryz.lays145_ren : Go.Shelf.Ren := ⟨fun | 145 => 51 | 220 => 101 | 219 => 152 | 217 => 202 | 225 => 203 | 224 => 204 | 267 => 205 | 266 => 234 | 314 => 235 | n => n, fun | 9 => 9 | 4 => 4 | 59 => 118 | 3 => 3 | 5 => 5 | 46 => 143 | 146 => 307 | 51 => 86 | n => n, fun | 1 => 2 | n => n⟩
theorem Tryz.lays145 : Go.Proofs.Lays.n145 Tryz.prog Tryz.lays145_ren := {
 mixed := by kernel_rfl
 f145 := Tryz.func51.trans (congrArg some (by kernel_rfl))
 f217 := Tryz.func202.trans (congrArg some (by kernel_rfl))
 f219 := Tryz.func152.trans (congrArg some (by kernel_rfl))
 f220 := Tryz.func101.trans (congrArg some (by kernel_rfl))
 f224 := Tryz.func204.trans (congrArg some (by kernel_rfl))
 f225 := Tryz.func203.trans (congrArg some (by kernel_rfl))
 f266 := Tryz.func234.trans (congrArg some (by kernel_rfl))
 f267 := Tryz.func205.trans (congrArg some (by kernel_rfl))
 f314 := Tryz.func235.trans (congrArg some (by kernel_rfl))
 t3 := Tryz.underlying3
 a3 := Tryz.isAgg3
 z3 := Tryz.sizeOf3
 v3 := Tryz.zeroValue3
 t4 := Tryz.underlying4
 a4 := Tryz.isAgg4
 z4 := Tryz.sizeOf4
 v4 := Tryz.zeroValue4
 t5 := Tryz.underlying5
 a5 := Tryz.isAgg5
 z5 := Tryz.sizeOf5
 v5 := Tryz.zeroValue5
 t9 := Tryz.underlying9
 a9 := Tryz.isAgg9
 z9 := Tryz.sizeOf9
 v9 := Tryz.zeroValue9
 t46 := Tryz.underlying143
 a46 := Tryz.isAgg143
 z46 := Tryz.sizeOf143
 v46 := Tryz.zeroValue143
 t51 := Tryz.underlying86
 a51 := Tryz.isAgg86
 z51 := Tryz.sizeOf86
 v51 := Tryz.zeroValue86
 t59 := Tryz.underlying118
 a59 := Tryz.isAgg118
 z59 := Tryz.sizeOf118
 v59 := Tryz.zeroValue118
 t146 := Tryz.underlying307
 a146 := Tryz.isAgg307
 z146 := Tryz.sizeOf307
 v146 := Tryz.zeroValue307
 g1 := by kernel_rfl }
open Go.RowKit Go.Lib in
/-- strings.Cut: "Cut slices s around the first instance of sep, returning the text before and after sep. The found result reports whether sep appears in s. If sep does not appear in s, cut returns s, "", false.": IT RETURNS 'Lib.cut s sep'; the world is as it was but for the count of draws. (LAID: no walk: one application.) -/
theorem Tryz.strings_Cut (s sep : ByteArray) (m : Int) (w : World) (hs : s.size < 4294967281) (hm : w.cell? ⟨2, 0, none⟩ = some (.int .i64 m)) :
  Calls Tryz.prog 51 #[.string s, .string sep] w fun e w' => e = .returned (.tuple #[.string ⟨(Lib.cut s.data.toList sep.data.toList).1.toArray⟩, .string ⟨(Lib.cut s.data.toList sep.data.toList).2.1.toArray⟩, .bool (Lib.cut s.data.toList sep.data.toList).2.2]) ∧ ∃ n, w' = w.drewN n := Any.strings_Cut Tryz.lays145 s sep m w hs hm
def Tryz.laysM219_ren : Go.Shelf.Ren := ⟨fun | 219 => 152 | 217 => 202 | 225 => 203 | 224 => 204 | 267 => 205 | 266 => 234 | 314 => 235 | n => n, fun | 9 => 9 | 3 => 3 | 4 => 4 | 5 => 5 | 46 => 143 | 146 => 307 | 51 => 86 | n => n, fun | 1 => 2 | n => n⟩
theorem Tryz.laysM219 : Go.Proofs.LaysM.n219 Tryz.prog Tryz.laysM219_ren := {
 mixed := by kernel_rfl
 f217 := Tryz.func202.trans (congrArg some (by kernel_rfl))
 f219 := Tryz.func152.trans (congrArg some (by kernel_rfl))
 f224 := Tryz.func204.trans (congrArg some (by kernel_rfl))
 f225 := Tryz.func203.trans (congrArg some (by kernel_rfl))
 f266 := Tryz.func234.trans (congrArg some (by kernel_rfl))
 f267 := Tryz.func205.trans (congrArg some (by kernel_rfl))
 f314 := Tryz.func235.trans (congrArg some (by kernel_rfl))
 t3 := Tryz.underlying3
 a3 := Tryz.isAgg3
 z3 := Tryz.sizeOf3
 v3 := Tryz.zeroValue3
 t4 := Tryz.underlying4
 a4 := Tryz.isAgg4
 z4 := Tryz.sizeOf4
 v4 := Tryz.zeroValue4
 t5 := Tryz.underlying5
 a5 := Tryz.isAgg5
 z5 := Tryz.sizeOf5
 v5 := Tryz.zeroValue5
 t9 := Tryz.underlying9
 a9 := Tryz.isAgg9
 z9 := Tryz.sizeOf9
 v9 := Tryz.zeroValue9
 t46 := Tryz.underlying143
 a46 := Tryz.isAgg143
 z46 := Tryz.sizeOf143
 v46 := Tryz.zeroValue143
 t51 := Tryz.underlying86
 a51 := Tryz.isAgg86
 z51 := Tryz.sizeOf86
 v51 := Tryz.zeroValue86
 t146 := Tryz.underlying307
 a146 := Tryz.isAgg307
 z146 := Tryz.sizeOf307
 v146 := Tryz.zeroValue307
 g1 := by kernel_rfl
 i3 := by kernel_rfl
 i4 := by kernel_rfl
 i5 := by kernel_rfl
 i9 := by kernel_rfl
 i46 := by kernel_rfl
 i51 := by kernel_rfl
 i146 := by kernel_rfl
 m1 := by kernel_rfl
 s1_3 := fun w h => Go.Proofs.cell_of_shapedOpen_int (zero := #[.int .i64 0]) (t := 3) h (of_decide_eq_true (by kernel_rfl)) (by kernel_rfl) rfl (by kernel_rfl) (by kernel_rfl) Tryz.underlying3 }
def Tryz.lays99_ren : Go.Shelf.Ren := ⟨fun | 99 => 146 | 206 => 195 | n => n, fun | 9 => 9 | 4 => 4 | 3 => 3 | n => n, fun | n => n⟩
theorem Tryz.lays99 : Go.Proofs.Lays.n99 Tryz.prog Tryz.lays99_ren := {
 mixed := by kernel_rfl
 f99 := Tryz.func146.trans (congrArg some (by kernel_rfl))
 f206 := Tryz.func195.trans (congrArg some (by kernel_rfl))
 t3 := Tryz.underlying3
 a3 := Tryz.isAgg3
 z3 := Tryz.sizeOf3
 v3 := Tryz.zeroValue3
 t4 := Tryz.underlying4
 a4 := Tryz.isAgg4
 z4 := Tryz.sizeOf4
 v4 := Tryz.zeroValue4
 t9 := Tryz.underlying9
 a9 := Tryz.isAgg9
 z9 := Tryz.sizeOf9
 v9 := Tryz.zeroValue9 }
open Go.RowKit Go.Lib in
/-- strings.HasPrefix: "HasPrefix reports whether the string s begins with prefix.": IT RETURNS 'Lib.hasPrefix s prefix'; the world is as it was. (LAID: no walk: one application.) -/
theorem Tryz.strings_HasPrefix (s p : ByteArray) (w : World) :
  Calls Tryz.prog 146 #[.string s, .string p] w fun e w' => e = .returned (.bool (Lib.hasPrefix s.data.toList p.data.toList)) ∧ w' = w := Any.strings_HasPrefix Tryz.lays99 s p w
def Tryz.lays101_ren : Go.Shelf.Ren := ⟨fun | 101 => 244 | 208 => 259 | 206 => 195 | n => n, fun | 9 => 9 | 4 => 4 | 3 => 3 | n => n, fun | n => n⟩
theorem Tryz.lays101 : Go.Proofs.Lays.n101 Tryz.prog Tryz.lays101_ren := {
 mixed := by kernel_rfl
 f101 := Tryz.func244.trans (congrArg some (by kernel_rfl))
 f206 := Tryz.func195.trans (congrArg some (by kernel_rfl))
 f208 := Tryz.func259.trans (congrArg some (by kernel_rfl))
 t3 := Tryz.underlying3
 a3 := Tryz.isAgg3
 z3 := Tryz.sizeOf3
 v3 := Tryz.zeroValue3
 t4 := Tryz.underlying4
 a4 := Tryz.isAgg4
 z4 := Tryz.sizeOf4
 v4 := Tryz.zeroValue4
 t9 := Tryz.underlying9
 a9 := Tryz.isAgg9
 z9 := Tryz.sizeOf9
 v9 := Tryz.zeroValue9 }
open Go.RowKit Go.Lib in
/-- strings.TrimPrefix: "TrimPrefix returns s without the provided leading prefix string. If s doesn't start with prefix, s is returned unchanged.": IT RETURNS 'Lib.trimPrefix s prefix'; the world is as it was. (LAID: no walk: one application.) -/
theorem Tryz.strings_TrimPrefix (s p : ByteArray) (w : World) :
  Calls Tryz.prog 244 #[.string s, .string p] w fun e w' => e = .returned (.string ⟨(Lib.trimPrefix s.data.toList p.data.toList).toArray⟩) ∧ w' = w := Any.strings_TrimPrefix Tryz.lays101 s p w
def Tryz.lays102_ren : Go.Shelf.Ren := ⟨fun | 102 => 99 | 209 => 150 | 207 => 199 | n => n, fun | 9 => 9 | 4 => 4 | 3 => 3 | n => n, fun | n => n⟩
theorem Tryz.lays102 : Go.Proofs.Lays.n102 Tryz.prog Tryz.lays102_ren := {
 mixed := by kernel_rfl
 f102 := Tryz.func99.trans (congrArg some (by kernel_rfl))
 f207 := Tryz.func199.trans (congrArg some (by kernel_rfl))
 f209 := Tryz.func150.trans (congrArg some (by kernel_rfl))
 t3 := Tryz.underlying3
 a3 := Tryz.isAgg3
 z3 := Tryz.sizeOf3
 v3 := Tryz.zeroValue3
 t4 := Tryz.underlying4
 a4 := Tryz.isAgg4
 z4 := Tryz.sizeOf4
 v4 := Tryz.zeroValue4
 t9 := Tryz.underlying9
 a9 := Tryz.isAgg9
 z9 := Tryz.sizeOf9
 v9 := Tryz.zeroValue9 }
open Go.RowKit Go.Lib in
/-- strings.TrimSuffix: "TrimSuffix returns s without the provided trailing suffix string. If s doesn't end with suffix, s is returned unchanged.": IT RETURNS 'Lib.trimSuffix s suffix'; the world is as it was. (LAID: no walk: one application.) -/
theorem Tryz.strings_TrimSuffix (s p : ByteArray) (w : World) (hs : s.size ≤ 9223372036854775807) :
  Calls Tryz.prog 99 #[.string s, .string p] w fun e w' => e = .returned (.string ⟨(Lib.trimSuffix s.data.toList p.data.toList).toArray⟩) ∧ w' = w := Any.strings_TrimSuffix Tryz.lays102 s p w hs
def Tryz.lays146_ren : Go.Shelf.Ren := ⟨fun | 146 => 98 | 221 => 149 | 268 => 197 | 138 => 198 | 143 => 171 | 195 => 231 | 197 => 232 | 218 => 233 | 219 => 152 | 260 => 254 | 217 => 202 | 225 => 203 | 224 => 204 | 267 => 205 | 266 => 234 | 314 => 235 | n => n, fun | 9 => 9 | 31 => 107 | 3 => 3 | 4 => 4 | 0 => 0 | 105 => 305 | 21 => 21 | 5 => 5 | 46 => 143 | 119 => 325 | 139 => 328 | 138 => 327 | 146 => 307 | 51 => 86 | n => n, fun | 1 => 2 | 3 => 6 | 4 => 7 | n => n⟩
theorem Tryz.lays146 : Go.Proofs.Lays.n146 Tryz.prog Tryz.lays146_ren := {
 mixed := by kernel_rfl
 f138 := Tryz.func198.trans (congrArg some (by kernel_rfl))
 f143 := Tryz.func171.trans (congrArg some (by kernel_rfl))
 f146 := Tryz.func98.trans (congrArg some (by kernel_rfl))
 f195 := Tryz.func231.trans (congrArg some (by kernel_rfl))
 f197 := Tryz.func232.trans (congrArg some (by kernel_rfl))
 f217 := Tryz.func202.trans (congrArg some (by kernel_rfl))
 f218 := Tryz.func233.trans (congrArg some (by kernel_rfl))
 f219 := Tryz.func152.trans (congrArg some (by kernel_rfl))
 f221 := Tryz.func149.trans (congrArg some (by kernel_rfl))
 f224 := Tryz.func204.trans (congrArg some (by kernel_rfl))
 f225 := Tryz.func203.trans (congrArg some (by kernel_rfl))
 f260 := Tryz.func254.trans (congrArg some (by kernel_rfl))
 f266 := Tryz.func234.trans (congrArg some (by kernel_rfl))
 f267 := Tryz.func205.trans (congrArg some (by kernel_rfl))
 f268 := Tryz.func197.trans (congrArg some (by kernel_rfl))
 f314 := Tryz.func235.trans (congrArg some (by kernel_rfl))
 t0 := Tryz.underlying0
 a0 := Tryz.isAgg0
 z0 := Tryz.sizeOf0
 v0 := Tryz.zeroValue0
 t3 := Tryz.underlying3
 a3 := Tryz.isAgg3
 z3 := Tryz.sizeOf3
 v3 := Tryz.zeroValue3
 t4 := Tryz.underlying4
 a4 := Tryz.isAgg4
 z4 := Tryz.sizeOf4
 v4 := Tryz.zeroValue4
 t5 := Tryz.underlying5
 a5 := Tryz.isAgg5
 z5 := Tryz.sizeOf5
 v5 := Tryz.zeroValue5
 t9 := Tryz.underlying9
 a9 := Tryz.isAgg9
 z9 := Tryz.sizeOf9
 v9 := Tryz.zeroValue9
 t21 := Tryz.underlying21
 a21 := Tryz.isAgg21
 z21 := Tryz.sizeOf21
 v21 := Tryz.zeroValue21
 t31 := Tryz.underlying107
 a31 := Tryz.isAgg107
 z31 := Tryz.sizeOf107
 v31 := Tryz.zeroValue107
 t46 := Tryz.underlying143
 a46 := Tryz.isAgg143
 z46 := Tryz.sizeOf143
 v46 := Tryz.zeroValue143
 t51 := Tryz.underlying86
 a51 := Tryz.isAgg86
 z51 := Tryz.sizeOf86
 v51 := Tryz.zeroValue86
 t105 := Tryz.underlying305
 a105 := Tryz.isAgg305
 z105 := Tryz.sizeOf305
 v105 := Tryz.zeroValue305
 t119 := Tryz.underlying325
 a119 := Tryz.isAgg325
 z119 := Tryz.sizeOf325
 t138 := Tryz.underlying327
 a138 := Tryz.isAgg327
 z138 := Tryz.sizeOf327
 v138 := Tryz.zeroValue327
 t139 := Tryz.underlying328
 a139 := Tryz.isAgg328
 z139 := Tryz.sizeOf328
 v139 := Tryz.zeroValue328
 t146 := Tryz.underlying307
 a146 := Tryz.isAgg307
 z146 := Tryz.sizeOf307
 v146 := Tryz.zeroValue307
 g1 := by kernel_rfl
 g3 := by kernel_rfl
 g4 := by kernel_rfl }
open Go.RowKit Go.Lib in
/-- strings.Split. (LAID: no walk: one application.) -/
theorem Tryz.strings_Split (s sep : ByteArray) (m : Int) (w : World) (hs : s.size < 4294967281) (hm : w.cell? ⟨2, 0, none⟩ = some (.int .i64 m)) (h1 : 1 ≤ sep.size) :
  Calls Tryz.prog 98 #[.string s, .string sep] w fun e w' =>
   e = .returned (.slice (some ⟨w.heap.size, 0, none⟩) (Lib.countB s sep + 1) (Lib.countB s sep + 1)) ∧ w' = w.alloc (.cells ((Lib.splitB sep 0 (Lib.countB s sep) s).map Value.string).toArray 9) := Any.strings_Split Tryz.lays146 (by kernel_rfl) s sep m w hs hm h1
def Tryz.lays147_ren : Go.Shelf.Ren := ⟨fun | 147 => 236 | 221 => 149 | 268 => 197 | 138 => 198 | 143 => 171 | 195 => 231 | 197 => 232 | 218 => 233 | 219 => 152 | 260 => 254 | 217 => 202 | 225 => 203 | 224 => 204 | 267 => 205 | 266 => 234 | 314 => 235 | n => n, fun | 9 => 9 | 3 => 3 | 31 => 107 | 4 => 4 | 0 => 0 | 105 => 305 | 21 => 21 | 5 => 5 | 46 => 143 | 119 => 325 | 139 => 328 | 138 => 327 | 146 => 307 | 51 => 86 | n => n, fun | 1 => 2 | 3 => 6 | 4 => 7 | n => n⟩
theorem Tryz.lays147 : Go.Proofs.Lays.n147 Tryz.prog Tryz.lays147_ren := {
 mixed := by kernel_rfl
 f138 := Tryz.func198.trans (congrArg some (by kernel_rfl))
 f143 := Tryz.func171.trans (congrArg some (by kernel_rfl))
 f147 := Tryz.func236.trans (congrArg some (by kernel_rfl))
 f195 := Tryz.func231.trans (congrArg some (by kernel_rfl))
 f197 := Tryz.func232.trans (congrArg some (by kernel_rfl))
 f217 := Tryz.func202.trans (congrArg some (by kernel_rfl))
 f218 := Tryz.func233.trans (congrArg some (by kernel_rfl))
 f219 := Tryz.func152.trans (congrArg some (by kernel_rfl))
 f221 := Tryz.func149.trans (congrArg some (by kernel_rfl))
 f224 := Tryz.func204.trans (congrArg some (by kernel_rfl))
 f225 := Tryz.func203.trans (congrArg some (by kernel_rfl))
 f260 := Tryz.func254.trans (congrArg some (by kernel_rfl))
 f266 := Tryz.func234.trans (congrArg some (by kernel_rfl))
 f267 := Tryz.func205.trans (congrArg some (by kernel_rfl))
 f268 := Tryz.func197.trans (congrArg some (by kernel_rfl))
 f314 := Tryz.func235.trans (congrArg some (by kernel_rfl))
 t0 := Tryz.underlying0
 a0 := Tryz.isAgg0
 z0 := Tryz.sizeOf0
 v0 := Tryz.zeroValue0
 t3 := Tryz.underlying3
 a3 := Tryz.isAgg3
 z3 := Tryz.sizeOf3
 v3 := Tryz.zeroValue3
 t4 := Tryz.underlying4
 a4 := Tryz.isAgg4
 z4 := Tryz.sizeOf4
 v4 := Tryz.zeroValue4
 t5 := Tryz.underlying5
 a5 := Tryz.isAgg5
 z5 := Tryz.sizeOf5
 v5 := Tryz.zeroValue5
 t9 := Tryz.underlying9
 a9 := Tryz.isAgg9
 z9 := Tryz.sizeOf9
 v9 := Tryz.zeroValue9
 t21 := Tryz.underlying21
 a21 := Tryz.isAgg21
 z21 := Tryz.sizeOf21
 v21 := Tryz.zeroValue21
 t31 := Tryz.underlying107
 a31 := Tryz.isAgg107
 z31 := Tryz.sizeOf107
 v31 := Tryz.zeroValue107
 t46 := Tryz.underlying143
 a46 := Tryz.isAgg143
 z46 := Tryz.sizeOf143
 v46 := Tryz.zeroValue143
 t51 := Tryz.underlying86
 a51 := Tryz.isAgg86
 z51 := Tryz.sizeOf86
 v51 := Tryz.zeroValue86
 t105 := Tryz.underlying305
 a105 := Tryz.isAgg305
 z105 := Tryz.sizeOf305
 v105 := Tryz.zeroValue305
 t119 := Tryz.underlying325
 a119 := Tryz.isAgg325
 z119 := Tryz.sizeOf325
 t138 := Tryz.underlying327
 a138 := Tryz.isAgg327
 z138 := Tryz.sizeOf327
 v138 := Tryz.zeroValue327
 t139 := Tryz.underlying328
 a139 := Tryz.isAgg328
 z139 := Tryz.sizeOf328
 v139 := Tryz.zeroValue328
 t146 := Tryz.underlying307
 a146 := Tryz.isAgg307
 z146 := Tryz.sizeOf307
 v146 := Tryz.zeroValue307
 g1 := by kernel_rfl
 g3 := by kernel_rfl
 g4 := by kernel_rfl }
open Go.RowKit Go.Lib in
/-- strings.SplitN, n > 0. (LAID: no walk: one application.) -/
theorem Tryz.strings_SplitN (s sep : ByteArray) (n : Nat) (m : Int) (w : World) (hs : s.size < 4294967281) (hm : w.cell? ⟨2, 0, none⟩ = some (.int .i64 m)) (h1 : 1 ≤ sep.size) (hn : 1 ≤ n) (hn63 : n ≤ 9223372036854775807) :
  Calls Tryz.prog 236 #[.string s, .string sep, .int .i64 n] w fun e w' =>
   e = .returned (.slice (some ⟨w.heap.size, 0, none⟩) (Lib.splitB sep 0 (min n (s.size + 1) - 1) s).length (min n (s.size + 1))) ∧ w' = w.alloc (.cells (Lib.cellsOf (Lib.splitB sep 0 (min n (s.size + 1) - 1) s) (min n (s.size + 1))) 9) := Any.strings_SplitN Tryz.lays147 (by kernel_rfl) s sep n m w hs hm h1 hn hn63
def Tryz.lays264_ren : Go.Shelf.Ren := ⟨fun | 264 => 143 | n => n, fun | 53 => 230 | 46 => 143 | n => n, fun | n => n⟩
theorem Tryz.lays264 : Go.Proofs.Lays.n264 Tryz.prog Tryz.lays264_ren := {
 mixed := by kernel_rfl
 f264 := Tryz.func143.trans (congrArg some (by kernel_rfl))
 t46 := Tryz.underlying143
 a46 := Tryz.isAgg143
 z46 := Tryz.sizeOf143
 v46 := Tryz.zeroValue143
 t53 := Tryz.underlying230
 a53 := Tryz.isAgg230
 z53 := Tryz.sizeOf230
 v53 := Tryz.zeroValue230 }
open Go.RowKit Go.Lib in
theorem Tryz.bits_Mul64 (x y : Nat) (hx : x < 18446744073709551616) (hy : y < 18446744073709551616) (w : World) :
  Calls Tryz.prog 143 #[.int .u64 x, .int .u64 y] w fun e w' => e = .returned (.tuple #[.int .u64 ((x * y / 18446744073709551616 : Nat) : Int), .int .u64 ((x * y % 18446744073709551616 : Nat) : Int)]) ∧ w' = w := Any.bits_Mul64 Tryz.lays264 x y hx hy w
end Go.Proofs
namespace Go.Proofs.YthjldemjipnmdaaGreatDoor.Sx
open Go.RowKit
mutual
inductive AV where
 | any
 | val (v : Value)
 | ptr (g j : Nat)
 | own (g : Nat)
 | pown (g sz i j : Nat)
 | im (sz n : Nat) (els : Nat → AL)
 | pim (cs : AL)
 | agg (cs : AL)
 | tup (cs : AL)
 | fn (f : Nat) (cs : AL)
inductive AL where
 | nil
 | cons (x : AV) (l : AL)
end
abbrev Cond := Nat → Prop
abbrev Rho := Nat → Option Value
def r0 : Rho := fun _ => none
mutual
def VR (w : World) : AV → Rho → Cond → Value → Prop
 | .any, _, _, _ => True
 | .val v, _, _, V => V = v
 | .ptr g j, r, _, V => ∃ b, r g = some (.pointer (some ⟨b, 0, none⟩)) ∧ V = .pointer (some ⟨b, j, none⟩)
 | .own g, r, _, V => r g = some V ∧ ((∃ a n c, V = .slice a n c) ∨ ∃ b, V = .map (some b))
 | .pown g sz i j, r, _, V => ∃ b n c, r g = some (.slice (some ⟨b, 0, none⟩) n c) ∧ V = .pointer (some ⟨b, i * sz + j, none⟩)
 | .im sz n els, _, M, V => (n = 0 ∧ V = .slice none 0 0) ∨ ∃ b off cap, V = .slice (some ⟨b, off, none⟩) n cap ∧ n ≤ cap ∧ b < w.heap.size ∧ ¬ M b ∧
   ∀ i, i < n → ∃ Us : List Value, (∀ j U, Us[j]? = some U → w.cell? ⟨b, off + i * sz + j, none⟩ = some U) ∧ Us.length = sz ∧ VRL w (els i) true r0 M Us
 | .pim cs, _, M, V => ∃ b off, V = .pointer (some ⟨b, off, none⟩) ∧ b < w.heap.size ∧ ¬ M b ∧
   ∃ Us : List Value, (∀ j U, Us[j]? = some U → w.cell? ⟨b, off + j, none⟩ = some U) ∧ VRL w cs true r0 M Us
 | .agg cs, r, M, V => ∃ a : Array Value, V = .agg a ∧ VRL w cs true r M a.toList
 | .tup cs, r, M, V => ∃ a : Array Value, V = .tuple a ∧ VRL w cs false r M a.toList
 | .fn f cs, r, M, V => ∃ a : Array Value, V = .func (.func f) #[] a ∧ VRL w cs false r M a.toList
def VRL (w : World) : AL → Bool → Rho → Cond → List Value → Prop
 | .nil, _, _, _, [] => True
 | .nil, _, _, _, _ :: _ => False
 | .cons _ _, _, _, _, [] => False
 | .cons x l, one, r, M, U :: us => (one = true → U.oneCell' = true) ∧ VR w x r M U ∧ VRL w l one r M us
end
section
variable {w w' : World} {M M' : Cond}
mutual
theorem VR.mono (hs : w.heap.size ≤ w'.heap.size) (hb : ∀ k, k < w.heap.size → ¬ M k → w'.heap[k]? = w.heap[k]? ∧ ¬ M' k) : ∀ (x : AV) {r r' : Rho}, (∀ (g : Nat) (V : Value), r g = some V → r' g = some V) → ∀ {V : Value}, VR w x r M V → VR w' x r' M' V
 | .any, _, _, _, _, _ => by unfold VR; trivial
 | .val _, _, _, _, _, h => by unfold VR at *; exact h
 | .ptr _ _, _, _, hr, _, h => by unfold VR at *; obtain ⟨b, h, e⟩ := h; exact ⟨b, hr _ _ h, e⟩
 | .own _, _, _, hr, _, h => by unfold VR at *; exact ⟨hr _ _ h.1, h.2⟩
 | .pown _ _ _ _, _, _, hr, _, h => by unfold VR at *; obtain ⟨b, n, c, h, e⟩ := h; exact ⟨b, n, c, hr _ _ h, e⟩
 | .im _ _ els, _, _, _, _, h => by
  unfold VR at *
  rcases h with h | ⟨b, off, cap, e, hc, hbs, hM, h⟩
  ·exact .inl h
  ·refine .inr ⟨b, off, cap, e, hc, Nat.lt_of_lt_of_le hbs hs, (hb b hbs hM).2, fun i hi => ?_⟩
   obtain ⟨Us, h1, h2, h3⟩ := h i hi
   exact ⟨Us, fun j U hj => by rw [World.cell?_of_block (w := w) (hb b hbs hM).1]; exact h1 j U hj, h2, VRL.mono hs hb (els i) (fun _ _ h => h) h3⟩
 | .pim cs, _, _, _, _, h => by
  unfold VR at *
  obtain ⟨b, off, e, hbs, hM, Us, h1, h3⟩ := h
  exact ⟨b, off, e, Nat.lt_of_lt_of_le hbs hs, (hb b hbs hM).2, Us, fun j U hj => by rw [World.cell?_of_block (w := w) (hb b hbs hM).1]; exact h1 j U hj, VRL.mono hs hb cs (fun _ _ h => h) h3⟩
 | .agg cs, _, _, hr, _, h => by unfold VR at *; obtain ⟨a, e, h⟩ := h; exact ⟨a, e, VRL.mono hs hb cs hr h⟩
 | .tup cs, _, _, hr, _, h => by unfold VR at *; obtain ⟨a, e, h⟩ := h; exact ⟨a, e, VRL.mono hs hb cs hr h⟩
 | .fn _ cs, _, _, hr, _, h => by unfold VR at *; obtain ⟨a, e, h⟩ := h; exact ⟨a, e, VRL.mono hs hb cs hr h⟩
theorem VRL.mono (hs : w.heap.size ≤ w'.heap.size) (hb : ∀ k, k < w.heap.size → ¬ M k → w'.heap[k]? = w.heap[k]? ∧ ¬ M' k) : ∀ (l : AL) {one : Bool} {r r' : Rho}, (∀ (g : Nat) (V : Value), r g = some V → r' g = some V) → ∀ {Us : List Value}, VRL w l one r M Us → VRL w' l one r' M' Us
 | .nil, _, _, _, _, [], _ => by have _ := hs; have _ := hb; unfold VRL; trivial
 | .nil, _, _, _, _, _ :: _, h => by unfold VRL at h; exact h.elim
 | .cons _ _, _, _, _, _, [], h => by unfold VRL at h; exact h.elim
 | .cons x l, _, _, _, hr, _ :: _, h => by unfold VRL at *; exact ⟨h.1, VR.mono hs hb x hr h.2.1, VRL.mono hs hb l hr h.2.2⟩
end
end
def AL.len : AL → Nat
 | .nil => 0
 | .cons _ l => l.len + 1
def getL : AL → Nat → AV
 | .nil, _ => .any
 | .cons x _, 0 => x
 | .cons _ l, n + 1 => getL l n
theorem VRL.length {w : World} {one : Bool} {r : Rho} {M : Cond} : ∀ {l : AL} {Us : List Value}, VRL w l one r M Us → Us.length = l.len
 | .nil, [], _ => rfl
 | .nil, _ :: _, h => by unfold VRL at h; exact h.elim
 | .cons _ _, [], h => by unfold VRL at h; exact h.elim
 | .cons _ l, _ :: us, h => by unfold VRL at h; simp only [List.length_cons, AL.len, VRL.length h.2.2]
theorem VRL.get {w : World} {one : Bool} {r : Rho} {M : Cond} : ∀ {l : AL} {Us : List Value}, VRL w l one r M Us → ∀ j, j < l.len → ∃ U, Us[j]? = some U ∧ (one = true → U.oneCell' = true) ∧ VR w (getL l j) r M U
 | .nil, [], _, j, hj => by simp [AL.len] at hj
 | .nil, _ :: _, h, _, _ => by unfold VRL at h; exact h.elim
 | .cons _ _, [], h, _, _ => by unfold VRL at h; exact h.elim
 | .cons x l, U :: us, h, 0, _ => by unfold VRL at h; exact ⟨U, rfl, h.1, h.2.1⟩
 | .cons x l, U :: us, h, j + 1, hj => by
  unfold VRL at h
  obtain ⟨V, h1, h2, h3⟩ := VRL.get h.2.2 j (by simp only [AL.len] at hj; omega)
  exact ⟨V, by simpa using h1, h2, h3⟩
theorem VRL.one {w : World} {r : Rho} {M : Cond} : ∀ {l : AL} {Us : List Value}, VRL w l true r M Us → ∀ U ∈ Us, U.oneCell' = true
 | .nil, [], _, U, hU => by cases hU
 | .nil, _ :: _, h, _, _ => by unfold VRL at h; exact h.elim
 | .cons _ _, [], h, _, _ => by unfold VRL at h; exact h.elim
 | .cons _ _, _ :: _, h, U, hU => by
  unfold VRL at h
  rcases List.mem_cons.1 hU with e | e
  ·rw [e]; exact h.1 rfl
  ·exact VRL.one h.2.2 U e
inductive MO where
 | dead
 | box (T : Nat) (cs : AL)
 | row (T sz n : Nat) (els : Nat → AL)
 | raw (o : Obj)
def MO.live : MO → Bool
 | .dead => false
 | _ => true
def blk : Value → Option Nat
 | .pointer (some a) => some a.block
 | .slice (some a) _ _ => some a.block
 | .map (some b) => some b
 | _ => none
def mkT : Nat := 4294967295
def rowOk (w : World) (T sz : Nat) (V : Value) (n : Nat) (xs : List Value) : Prop := xs.length = n * sz ∧
 ((V = .slice none 0 0 ∧ n = 0) ∨ ∃ (g cap : Nat) (cur : Array Value) (T0 : TypeId) (fz : Nat × Nat), V = .slice (some ⟨g, 0, none⟩) n cap ∧ ((T0 = T ∧ fz = (0, 0)) ∨ (T = mkT ∧ cur.size ≤ fz.1)) ∧ w.heap[g]? = some (.cells cur T0 fz) ∧ n ≤ cap ∧ cap ≤ maxLen ∧ cur.size = cap * sz ∧ cur.toList.take (n * sz) = xs)
theorem rowOk.of {w : World} {T sz n : Nat} {V : Value} {xs : List Value} (h : w.ownsRow 0 T sz V n xs) : rowOk w T sz V n xs := by
 refine ⟨h.1, ?_⟩
 rcases h.2 with h2 | ⟨g, cap, cur, e, _, h3, h4⟩
 ·exact .inl h2
 ·exact .inr ⟨g, cap, cur, T, (0, 0), e, .inl ⟨rfl, rfl⟩, h3, h4⟩
theorem rowOk.own {w : World} {T sz n : Nat} {V : Value} {xs : List Value} (h : rowOk w T sz V n xs) (hT : T < mkT) : w.ownsRow 0 T sz V n xs := by
 refine ⟨h.1, ?_⟩
 rcases h.2 with h2 | ⟨g, cap, cur, T0, fz, e, hm, h3, h4⟩
 ·exact .inl h2
 ·rcases hm with ⟨rfl, rfl⟩ | ⟨rfl, _⟩
  ·exact .inr ⟨g, cap, cur, e, Nat.zero_le _, h3, h4⟩
  ·exact absurd hT (Nat.lt_irrefl _)
theorem rowOk_nil (w : World) (T sz : Nat) : rowOk w T sz (.slice none 0 0) 0 [] := rowOk.of (World.ownsRow_nil w 0 T sz)
theorem rowOk.slice {w : World} {T sz n : Nat} {V : Value} {xs : List Value} (h : rowOk w T sz V n xs) : ∃ a n c, V = .slice a n c := by
 rcases h.2 with ⟨rfl, _⟩ | ⟨g, cap, cur, T0, fz, rfl, _⟩
 ·exact ⟨_, _, _, rfl⟩
 ·exact ⟨_, _, _, rfl⟩
def isMapO : Obj → Bool
 | .map _ _ => true
 | _ => false
def RO (w : World) (r : Rho) (M : Cond) (V : Value) : MO → Prop
 | .dead => True
 | .box T cs => ∃ b c, V = .pointer (some ⟨b, 0, none⟩) ∧ w.heap[b]? = some (.cells c T (0, 0)) ∧ VRL w cs true r M c.toList
 | .row T sz n els => ∃ xs, rowOk w T sz V n xs ∧ ∀ i, i < n → ∃ Us : List Value, (∀ j U, Us[j]? = some U → xs[i * sz + j]? = some U) ∧ Us.length = sz ∧ VRL w (els i) true r0 M Us
 | .raw o => ∃ b, blk V = some b ∧ w.heap[b]? = some o ∧ (isMapO o = true → V = .map (some b))
abbrev Hp := List (Nat × MO)
def getH : Hp → Nat → Option MO
 | [], _ => none
 | (s, v) :: t, k => match Nat.beq s k with
  | true => some v
  | false => getH t k
theorem getH_cons (s : Nat) (v : MO) (t : Hp) (k : Nat) : getH ((s, v) :: t) k = if s = k then some v else getH t k := by
 cases e : Nat.beq s k with
 | true => rw [if_pos (Nat.eq_of_beq_eq_true e)]; simp only [getH, e]
 | false => rw [if_neg (Nat.ne_of_beq_eq_false e)]; simp only [getH, e]
def Gl (w : World) : Prop := (∃ m, w.cell? ⟨2, 0, none⟩ = some (.int .i64 m)) ∧ ∃ T fz, w.heap[3]? = some (.cells ((List.range 20).map fun i => Value.int .u64 ((10 ^ i : Nat) : Int)).toArray T fz)
theorem Gl.size {w : World} (h : Gl w) : 4 ≤ w.heap.size := by
 obtain ⟨_, T, fz, h⟩ := h
 have := (Array.getElem?_eq_some_iff.1 h).1
 omega
theorem Gl.keep {w w' : World} (h : Gl w) (e : ∀ k, k < 4 → w'.heap[k]? = w.heap[k]?) : Gl w' := by
 obtain ⟨⟨m, h1⟩, T, fz, h2⟩ := h
 exact ⟨⟨m, by rw [World.cell?_of_block (w := w) (e 2 (by omega))]; exact h1⟩, T, fz, by rw [e 3 (by omega)]; exact h2⟩
def MOk (w : World) (M : Cond) : Prop := (∀ b, M b → b < w.heap.size) ∧ Gl w
structure Fr where
 w0 : World
 X : Cond
 M0 : Cond
 R0 : Rho := fun _ => none
def Mut (M0 : Cond) (r : Rho) (h : Hp) : Cond := fun b => M0 b ∨ ∃ (g : Nat) (o : MO) (V : Value), getH h g = some o ∧ o.live = true ∧ r g = some V ∧ blk V = some b
structure HR (F : Fr) (r : Rho) (h : Hp) (w : World) : Prop where
 dom : ∀ g, (r g).isSome = (getH h g).isSome
 objs : ∀ (g : Nat) (o : MO) (V : Value), getH h g = some o → r g = some V → RO w r (Mut F.M0 r h) V o
 sep : ∀ (g g' : Nat) (o o' : MO) (V V' : Value) (b : Nat), getH h g = some o → getH h g' = some o' → o.live = true → o'.live = true → r g = some V → r g' = some V' → blk V = some b → blk V' = some b → g = g'
 base : ∀ (g : Nat) (o : MO) (V : Value) (b : Nat), getH h g = some o → o.live = true → r g = some V → blk V = some b → F.w0.heap.size ≤ b ∨ F.X b
 os : w.os = F.w0.os
 tape : w.tape = F.w0.tape
 output : w.output = F.w0.output
 size : F.w0.heap.size ≤ w.heap.size
 frame : ∀ k, k < F.w0.heap.size → ¬ F.X k → w.heap[k]? = F.w0.heap[k]?
 m0 : (∀ b, F.M0 b → b < F.w0.heap.size ∧ ¬ F.X b) ∧ Gl F.w0 ∧ ∀ b, F.X b → 4 ≤ b
 pin : ∀ (g : Nat) (V : Value), F.R0 g = some V → r g = some V
structure Evo (F : Fr) (r : Rho) (h : Hp) (w : World) (r' : Rho) (h' : Hp) (w' : World) : Prop where
 size : w.heap.size ≤ w'.heap.size
 old : ∀ (g : Nat) (V : Value), r g = some V → r' g = some V
 keep : ∀ k, k < w.heap.size → ¬ Mut F.M0 r h k → w'.heap[k]? = w.heap[k]? ∧ ¬ Mut F.M0 r' h' k
theorem Evo.refl (F : Fr) (r : Rho) (h : Hp) (w : World) : Evo F r h w r h w := ⟨Nat.le_refl _, fun _ _ h => h, fun _ _ h => ⟨rfl, h⟩⟩
theorem Evo.trans {F : Fr} {r r1 r2 : Rho} {h h1 h2 : Hp} {w w1 w2 : World} (a : Evo F r h w r1 h1 w1) (b : Evo F r1 h1 w1 r2 h2 w2) : Evo F r h w r2 h2 w2 :=
 ⟨Nat.le_trans a.size b.size, fun g V e => b.old g V (a.old g V e), fun k hk hm => by
  have h1 := a.keep k hk hm
  have h2 := b.keep k (Nat.lt_of_lt_of_le hk a.size) h1.2
  exact ⟨h2.1.trans h1.1, h2.2⟩⟩
theorem Evo.vr {F : Fr} {r r' : Rho} {h h' : Hp} {w w' : World} (e : Evo F r h w r' h' w') {x : AV} {V : Value} (hv : VR w x r (Mut F.M0 r h) V) : VR w' x r' (Mut F.M0 r' h') V :=
 VR.mono e.size e.keep x e.old hv
theorem Evo.vrl {F : Fr} {r r' : Rho} {h h' : Hp} {w w' : World} (e : Evo F r h w r' h' w') {x : AL} {one : Bool} {V : List Value} (hv : VRL w x one r (Mut F.M0 r h) V) : VRL w' x one r' (Mut F.M0 r' h') V :=
 VRL.mono e.size e.keep x e.old hv
theorem Evo.vrl0 {F : Fr} {r r' : Rho} {h h' : Hp} {w w' : World} (e : Evo F r h w r' h' w') {x : AL} {one : Bool} {V : List Value} (hv : VRL w x one r0 (Mut F.M0 r h) V) : VRL w' x one r0 (Mut F.M0 r' h') V :=
 VRL.mono e.size e.keep x (fun _ _ h => h) hv
theorem VR.lift {w : World} {M : Cond} {x : AV} {r : Rho} {V : Value} (h : VR w x r0 M V) : VR w x r M V :=
 VR.mono (w := w) (w' := w) (M := M) (M' := M) (Nat.le_refl _) (fun _ _ h => ⟨rfl, h⟩) x (r := r0) (r' := r) (fun g V e => by cases e) h
theorem VRL.lift {w : World} {M : Cond} {x : AL} {one : Bool} {r : Rho} {V : List Value} (h : VRL w x one r0 M V) : VRL w x one r M V :=
 VRL.mono (w := w) (w' := w) (M := M) (M' := M) (Nat.le_refl _) (fun _ _ h => ⟨rfl, h⟩) x (r := r0) (r' := r) (fun g V e => by cases e) h
abbrev Tm := List (Nat × AV)
def getT : Tm → Nat → AV
 | [], _ => .any
 | (s, v) :: t, k => match Nat.beq s k with
  | true => v
  | false => getT t k
def TR (w : World) (r : Rho) (M : Cond) (t : Tm) (a : Act) : Prop := ∀ s, VR w (getT t s) r M (a.tmps.getD s undef)
theorem getT_cons (s : Nat) (v : AV) (t : Tm) (k : Nat) : getT ((s, v) :: t) k = if s = k then v else getT t k := by
 cases e : Nat.beq s k with
 | true => rw [if_pos (Nat.eq_of_beq_eq_true e)]; simp only [getT, e]
 | false => rw [if_neg (Nat.ne_of_beq_eq_false e)]; simp only [getT, e]
def upd (t : Tm) (d : Option Nat) (v : AV) : Tm := match d with
 | some s => (s, v) :: t
 | none => t
theorem TR.put {w : World} {r : Rho} {M : Cond} {t : Tm} {a : Act} (h : TR w r M t a) (d : Option Nat) {v : AV} {V : Value} (hd : ∀ s, d = some s → s < a.tmps.size) (hv : VR w v r M V) : TR w r M (upd t d v) (a.put d V) := by
 intro s
 cases d with
 | none => exact h s
 | some k =>
  show VR w (getT ((k, v) :: t) s) r M ((a.tmps.setIfInBounds k V).getD s undef)
  rw [getT_cons]
  have hk := hd k rfl
  split
  ·rename_i e
   subst e
   simpa [Array.getD, hk] using hv
  ·rename_i e
   have := h s
   have e2 : (a.tmps.setIfInBounds k V).getD s undef = a.tmps.getD s undef := by
    simp only [Array.getD_eq_getD_getElem?, Array.getElem?_setIfInBounds, if_neg e]
   rw [e2]
   exact this
theorem TR.evo {F : Fr} {r r' : Rho} {h h' : Hp} {w w' : World} {t : Tm} {a : Act} (e : Evo F r h w r' h' w') (ht : TR w r (Mut F.M0 r h) t a) : TR w' r' (Mut F.M0 r' h') t a := fun s => e.vr (ht s)
end Go.Proofs.YthjldemjipnmdaaGreatDoor.Sx
namespace Go.Proofs.YthjldemjipnmdaaGreatDoor.Sx
open Go.RowKit
variable {F : Fr} {r : Rho} {h : Hp} {w w' : World}
theorem RO.mono {r' : Rho} {h' : Hp} (E : Evo F r h w r' h' w') {V : Value} {o : MO} (hk : o.live = true → ∀ b, blk V = some b → w'.heap[b]? = w.heap[b]?) (H : RO w r (Mut F.M0 r h) V o) : RO w' r' (Mut F.M0 r' h') V o := by
 cases o with
 | dead => trivial
 | box T cs =>
  obtain ⟨b, c, rfl, hb, hv⟩ := H
  exact ⟨b, c, rfl, (hk rfl b rfl).trans hb, E.vrl hv⟩
 | row T sz n els =>
  obtain ⟨xs, ho, hv⟩ := H
  refine ⟨xs, ?_, fun i hi => ?_⟩
  ·refine ⟨ho.1, ?_⟩
   rcases ho.2 with h | ⟨g, cap, cur, T0, fz, rfl, h1, h2, h3⟩
   ·exact .inl h
   ·exact .inr ⟨g, cap, cur, T0, fz, rfl, h1, (hk rfl g rfl).trans h2, h3⟩
  ·obtain ⟨Us, h1, h2, h3⟩ := hv i hi
   exact ⟨Us, h1, h2, E.vrl0 h3⟩
 | raw o =>
  obtain ⟨b, hb, ho, hm⟩ := H
  exact ⟨b, hb, (hk rfl b hb).trans ho, hm⟩
theorem RO.lt {M : Cond} {V : Value} {o : MO} (H : RO w r M V o) (hl : o.live = true) : ∀ b, blk V = some b → b < w.heap.size := by
 intro b hb
 cases o with
 | dead => cases hl
 | box T cs =>
  obtain ⟨b', c, rfl, hc, _⟩ := H
  cases hb
  exact (Array.getElem?_eq_some_iff.1 hc).1
 | row T sz n els =>
  obtain ⟨xs, ho, _⟩ := H
  rcases ho.2 with ⟨rfl, _⟩ | ⟨g, cap, cur, T0, fz, rfl, h1, h2, h3⟩
  ·cases hb
  ·cases hb
   exact (Array.getElem?_eq_some_iff.1 h2).1
 | raw o =>
  obtain ⟨b', hb', ho, _⟩ := H
  rw [hb] at hb'
  cases hb'
  exact (Array.getElem?_eq_some_iff.1 ho).1
theorem HR.some_of (H : HR F r h w) {g : Nat} {o : MO} (hg : getH h g = some o) : ∃ V, r g = some V := by
 have := H.dom g
 rw [hg] at this
 exact Option.isSome_iff_exists.1 this
theorem HR.lt (H : HR F r h w) {b : Nat} (hm : Mut F.M0 r h b) : b < w.heap.size := by
 rcases hm with hm | ⟨g, o, V, h1, h2, h3, h4⟩
 ·exact Nat.lt_of_lt_of_le (H.m0.1 b hm).1 H.size
 ·exact (H.objs g o V h1 h3).lt h2 b h4
theorem HR.gl (H : HR F r h w) : Gl w := H.m0.2.1.keep fun k hk => H.frame k (by have := H.m0.2.1.size; omega) (fun hx => by have := H.m0.2.2 k hx; omega)
theorem HR.mok (H : HR F r h w) : MOk w (Mut F.M0 r h) := ⟨fun _ hb => H.lt hb, H.gl⟩
theorem HR.four (H : HR F r h w) {g b : Nat} {o : MO} {V : Value} (hg : getH h g = some o) (hl : o.live = true) (hV : r g = some V) (hb : blk V = some b) : 4 ≤ b := by
 rcases H.base g o V b hg hl hV hb with e | e
 ·have := H.m0.2.1.size; omega
 ·exact H.m0.2.2 b e
theorem HR.same (H : HR F r h w) (hb : Below w.heap.size w w') : HR F r h w' ∧ Evo F r h w r h w' := by
 have E : Evo F r h w r h w' := ⟨hb.size, fun _ _ h => h, fun k hk hm => ⟨hb.block k hk, hm⟩⟩
 exact ⟨⟨H.dom, fun g o V h1 h2 => (H.objs g o V h1 h2).mono E (fun hl b hb' => hb.block b ((H.objs g o V h1 h2).lt hl b hb')), H.sep, H.base, hb.os.trans H.os, hb.tape.trans H.tape, hb.output.trans H.output, Nat.le_trans H.size hb.size,
  fun k hk hx => (hb.block k (Nat.lt_of_lt_of_le hk H.size)).trans (H.frame k hk hx), H.m0, H.pin⟩, E⟩
def updR (r : Rho) (s : Nat) (V : Value) : Rho := fun g => if g = s then some V else r g
theorem dom_cons {s : Nat} {V : Value} {o : MO} (hd : ∀ g, (r g).isSome = (getH h g).isSome) : ∀ g, (updR r s V g).isSome = (getH ((s, o) :: h) g).isSome := by
 intro g
 rw [getH_cons]
 unfold updR
 by_cases e : g = s
 ·rw [if_pos e, if_pos e.symm]; rfl
 ·rw [if_neg e, if_neg (fun e' => e e'.symm)]; exact hd g
theorem HR.new (H : HR F r h w) (hb : Below w.heap.size w w') {s : Nat} (hs : getH h s = none) {V : Value} (hV : ∀ b, blk V = some b → w.heap.size ≤ b) {o : MO}
  (hro : Evo F r h w (updR r s V) ((s, o) :: h) w' → RO w' (updR r s V) (Mut F.M0 (updR r s V) ((s, o) :: h)) V o) : HR F (updR r s V) ((s, o) :: h) w' ∧ Evo F r h w (updR r s V) ((s, o) :: h) w' := by
 have hrs : r s = none := by
  have := H.dom s
  rw [hs] at this
  cases e : r s with
  | none => rfl
  | some v => rw [e] at this; cases this
 have hold : ∀ g V', r g = some V' → updR r s V g = some V' := fun g V' e => by
  unfold updR
  rw [if_neg (fun e' => by rw [e', hrs] at e; cases e)]
  exact e
 have hg : ∀ {g : Nat} {o' : MO} {V' : Value}, getH ((s, o) :: h) g = some o' → updR r s V g = some V' → (g = s ∧ o' = o ∧ V' = V) ∨ (g ≠ s ∧ getH h g = some o' ∧ r g = some V') := by
  intro g o' V' h1 h2
  rw [getH_cons] at h1
  unfold updR at h2
  by_cases e : s = g
  ·rw [if_pos e] at h1; rw [if_pos e.symm] at h2
   exact .inl ⟨e.symm, (Option.some.inj h1).symm, (Option.some.inj h2).symm⟩
  ·rw [if_neg e] at h1; rw [if_neg (fun e' => e e'.symm)] at h2
   exact .inr ⟨fun e' => e e'.symm, h1, h2⟩
 have E : Evo F r h w (updR r s V) ((s, o) :: h) w' := ⟨hb.size, hold, fun k hk hm => ⟨hb.block k hk, by
  rintro (hm' | ⟨g, o', V', h1, h2, h3, h4⟩)
  ·exact hm (.inl hm')
  ·rcases hg h1 h3 with ⟨rfl, rfl, rfl⟩ | ⟨_, h1, h3⟩
   ·have := hV k h4; omega
   ·exact hm (.inr ⟨g, o', V', h1, h2, h3, h4⟩)⟩⟩
 refine ⟨⟨dom_cons H.dom, fun g o' V' h1 h2 => ?_, fun g g' o1 o2 V1 V2 b h1 h2 l1 l2 h3 h4 h5 h6 => ?_, fun g o' V' b h1 h2 h3 h4 => ?_, hb.os.trans H.os, hb.tape.trans H.tape, hb.output.trans H.output, Nat.le_trans H.size hb.size,
  fun k hk hx => (hb.block k (Nat.lt_of_lt_of_le hk H.size)).trans (H.frame k hk hx), H.m0, fun g V e => hold g V (H.pin g V e)⟩, E⟩
 ·rcases hg h1 h2 with ⟨rfl, rfl, rfl⟩ | ⟨_, h1, h2⟩
  ·exact hro E
  ·exact (H.objs g o' V' h1 h2).mono E (fun hl b hb' => hb.block b ((H.objs g o' V' h1 h2).lt hl b hb'))
 ·rcases hg h1 h3 with ⟨e1, e2, e3⟩ | ⟨_, p1, p3⟩ <;> rcases hg h2 h4 with ⟨d1, d2, d3⟩ | ⟨_, p2, p4⟩
  ·rw [e1, d1]
  ·have a1 := hV b (e3 ▸ h5)
   have a2 := (H.objs _ _ _ p2 p4).lt l2 b h6
   omega
  ·have a1 := hV b (d3 ▸ h6)
   have a2 := (H.objs _ _ _ p1 p3).lt l1 b h5
   omega
  ·exact H.sep g g' o1 o2 V1 V2 b p1 p2 l1 l2 p3 p4 h5 h6
 ·rcases hg h1 h3 with ⟨rfl, rfl, rfl⟩ | ⟨_, h1, h3⟩
  ·exact .inl (Nat.le_trans H.size (hV b h4))
  ·exact H.base g o' V' b h1 h2 h3 h4
theorem HR.set (H : HR F r h w) {g : Nat} {o o' : MO} {V : Value} (hg : getH h g = some o) (hl : o.live = true) (hV : r g = some V) {b : Nat} (hbV : blk V = some b)
  (ho : w'.os = w.os) (ht : w'.tape = w.tape) (hu : w'.output = w.output) (hz : w.heap.size ≤ w'.heap.size) (hk : ∀ k, k < w.heap.size → k ≠ b → w'.heap[k]? = w.heap[k]?)
  (hro : Evo F r h w r ((g, o') :: h) w' → RO w' r (Mut F.M0 r ((g, o') :: h)) V o') : HR F r ((g, o') :: h) w' ∧ Evo F r h w r ((g, o') :: h) w' := by
 have hget : ∀ {k : Nat} {q : MO}, getH ((g, o') :: h) k = some q → (k = g ∧ q = o') ∨ (k ≠ g ∧ getH h k = some q) := by
  intro k q h1
  rw [getH_cons] at h1
  by_cases e : g = k
  ·rw [if_pos e] at h1; exact .inl ⟨e.symm, (Option.some.inj h1).symm⟩
  ·rw [if_neg e] at h1; exact .inr ⟨fun e' => e e'.symm, h1⟩
 have hsub : ∀ {k : Nat}, Mut F.M0 r ((g, o') :: h) k → Mut F.M0 r h k := by
  rintro k (hm' | ⟨g', o1, V', h1, h2, h3, h4⟩)
  ·exact .inl hm'
  ·rcases hget h1 with ⟨rfl, rfl⟩ | ⟨_, h1⟩
   ·exact .inr ⟨g', o, V', hg, hl, h3, h4⟩
   ·exact .inr ⟨g', o1, V', h1, h2, h3, h4⟩
 have hmb : Mut F.M0 r h b := .inr ⟨g, o, V, hg, hl, hV, hbV⟩
 have E : Evo F r h w r ((g, o') :: h) w' := ⟨hz, fun _ _ h => h, fun k hk1 hm => ⟨hk k hk1 (fun e => hm (e ▸ hmb)), fun hm' => hm (hsub hm')⟩⟩
 refine ⟨⟨fun k => ?_, fun k q V' h1 h2 => ?_, fun k k' q q' V1 V2 b' h1 h2 l1 l2 h3 h4 h5 h6 => ?_, fun k q V' b' h1 h2 h3 h4 => ?_, ho.trans H.os, ht.trans H.tape, hu.trans H.output, Nat.le_trans H.size hz, fun k hk1 hx => ?_, H.m0, H.pin⟩, E⟩
 ·rw [getH_cons]
  by_cases e : g = k
  ·rw [if_pos e, ← e, hV]; rfl
  ·rw [if_neg e]; exact H.dom k
 ·rcases hget h1 with ⟨rfl, rfl⟩ | ⟨hne, h1⟩
  ·rw [hV] at h2; obtain rfl := Option.some.inj h2
   exact hro E
  ·refine (H.objs k q V' h1 h2).mono E (fun hl' b' hb' => hk b' ((H.objs k q V' h1 h2).lt hl' b' hb') (fun e => hne ?_))
   exact H.sep k g q o V' V b h1 hg hl' hl h2 hV (e ▸ hb') hbV
 ·rcases hget h1 with ⟨e1, e2⟩ | ⟨n1, p1⟩ <;> rcases hget h2 with ⟨d1, d2⟩ | ⟨n2, p2⟩
  ·rw [e1, d1]
  ·rw [e1]; exact H.sep _ _ _ _ V1 V2 b' hg p2 hl l2 (e1 ▸ h3) h4 h5 h6
  ·rw [d1]; exact H.sep _ _ _ _ V1 V2 b' p1 hg l1 hl h3 (d1 ▸ h4) h5 h6
  ·exact H.sep _ _ _ _ V1 V2 b' p1 p2 l1 l2 h3 h4 h5 h6
 ·rcases hget h1 with ⟨rfl, rfl⟩ | ⟨_, h1⟩
  ·exact H.base _ o V' b' hg hl h3 h4
  ·exact H.base k q V' b' h1 h2 h3 h4
 ·have hne : k ≠ b := by
   intro e
   rcases H.base g o V b hg hl hV hbV with h1 | h1
   ·omega
   ·exact hx (e ▸ h1)
  exact (hk k (Nat.lt_of_lt_of_le hk1 H.size) hne).trans (H.frame k hk1 hx)
theorem HR.kill (H : HR F r h w) {g : Nat} {o : MO} (hg : getH h g = some o) : HR F r ((g, .dead) :: h) w ∧ Evo F r h w r ((g, .dead) :: h) w := by
 have hget : ∀ {k : Nat} {q : MO}, getH ((g, .dead) :: h) k = some q → (k = g ∧ q = .dead) ∨ (k ≠ g ∧ getH h k = some q) := by
  intro k q h1
  rw [getH_cons] at h1
  by_cases e : g = k
  ·rw [if_pos e] at h1; exact .inl ⟨e.symm, (Option.some.inj h1).symm⟩
  ·rw [if_neg e] at h1; exact .inr ⟨fun e' => e e'.symm, h1⟩
 have hsub : ∀ {k : Nat}, Mut F.M0 r ((g, .dead) :: h) k → Mut F.M0 r h k := by
  rintro k (hm' | ⟨g', o1, V', h1, h2, h3, h4⟩)
  ·exact .inl hm'
  ·rcases hget h1 with ⟨rfl, rfl⟩ | ⟨_, h1⟩
   ·cases h2
   ·exact .inr ⟨g', o1, V', h1, h2, h3, h4⟩
 have E : Evo F r h w r ((g, .dead) :: h) w := ⟨Nat.le_refl _, fun _ _ h => h, fun k hk1 hm => ⟨rfl, fun hm' => hm (hsub hm')⟩⟩
 refine ⟨⟨fun k => ?_, fun k q V' h1 h2 => ?_, fun k k' q q' V1 V2 b' h1 h2 l1 l2 h3 h4 h5 h6 => ?_, fun k q V' b' h1 h2 h3 h4 => ?_, H.os, H.tape, H.output, H.size, H.frame, H.m0, H.pin⟩, E⟩
 ·rw [getH_cons]
  by_cases e : g = k
  ·rw [if_pos e, ← e]; have := H.dom g; rw [hg] at this; exact this
  ·rw [if_neg e]; exact H.dom k
 ·rcases hget h1 with ⟨rfl, rfl⟩ | ⟨hne, h1⟩
  ·trivial
  ·exact (H.objs k q V' h1 h2).mono E (fun _ _ _ => rfl)
 ·rcases hget h1 with ⟨_, e2⟩ | ⟨n1, p1⟩
  ·rw [e2] at l1; cases l1
  rcases hget h2 with ⟨_, d2⟩ | ⟨n2, p2⟩
  ·rw [d2] at l2; cases l2
  exact H.sep _ _ _ _ V1 V2 b' p1 p2 l1 l2 h3 h4 h5 h6
 ·rcases hget h1 with ⟨rfl, rfl⟩ | ⟨_, h1⟩
  ·cases h2
  ·exact H.base k q V' b' h1 h2 h3 h4
theorem HR.grow (H : HR F r h w) {g s : Nat} {o o' : MO} {V V' : Value} (hg : getH h g = some o) (hl : o.live = true) (hV : r g = some V) (hs : getH h s = none) (hg' : w.grownBy w' (blk V)) (hV' : ∀ b, blk V' = some b → blk V = some b ∨ w.heap.size ≤ b)
  (hro : Evo F r h w (updR r s V') ((s, o') :: (g, .dead) :: h) w' → RO w' (updR r s V') (Mut F.M0 (updR r s V') ((s, o') :: (g, .dead) :: h)) V' o') :
  HR F (updR r s V') ((s, o') :: (g, .dead) :: h) w' ∧ Evo F r h w (updR r s V') ((s, o') :: (g, .dead) :: h) w' := by
 have hrs : r s = none := by
  have := H.dom s
  rw [hs] at this
  cases e : r s with
  | none => rfl
  | some v => rw [e] at this; cases this
 have hsg : s ≠ g := fun e => by rw [e, hg] at hs; cases hs
 have hold : ∀ k V1, r k = some V1 → updR r s V' k = some V1 := fun k V1 e => by
  unfold updR
  rw [if_neg (fun e' => by rw [e', hrs] at e; cases e)]
  exact e
 have hget : ∀ {k : Nat} {q : MO} {V1 : Value}, getH ((s, o') :: (g, .dead) :: h) k = some q → updR r s V' k = some V1 → (k = s ∧ q = o' ∧ V1 = V') ∨ (k = g ∧ q = .dead) ∨ (k ≠ s ∧ k ≠ g ∧ getH h k = some q ∧ r k = some V1) := by
  intro k q V1 h1 h2
  rw [getH_cons, getH_cons] at h1
  unfold updR at h2
  by_cases e : s = k
  ·rw [if_pos e] at h1; rw [if_pos e.symm] at h2
   exact .inl ⟨e.symm, (Option.some.inj h1).symm, (Option.some.inj h2).symm⟩
  ·rw [if_neg e] at h1; rw [if_neg (fun e' => e e'.symm)] at h2
   by_cases e2 : g = k
   ·rw [if_pos e2] at h1; exact .inr (.inl ⟨e2.symm, (Option.some.inj h1).symm⟩)
   ·rw [if_neg e2] at h1; exact .inr (.inr ⟨fun e' => e e'.symm, fun e' => e2 e'.symm, h1, h2⟩)
 have hmV : ∀ b, blk V = some b → Mut F.M0 r h b := fun b hb => .inr ⟨g, o, V, hg, hl, hV, hb⟩
 have hbk : ∀ k, k < w.heap.size → blk V ≠ some k → w'.heap[k]? = w.heap[k]? := fun k hk hne => hg'.block k hk (fun e => hne e.symm)
 have E : Evo F r h w (updR r s V') ((s, o') :: (g, .dead) :: h) w' := ⟨hg'.size, hold, fun k hk hm => ⟨hbk k hk (fun e => hm (hmV k e)), by
  rintro (hm' | ⟨g', q, V1, h1, h2, h3, h4⟩)
  ·exact hm (.inl hm')
  ·rcases hget h1 h3 with ⟨rfl, rfl, rfl⟩ | ⟨rfl, rfl⟩ | ⟨_, _, h1, h3⟩
   ·rcases hV' k h4 with h5 | h5
    ·exact hm (hmV k h5)
    ·omega
   ·cases h2
   ·exact hm (.inr ⟨g', q, V1, h1, h2, h3, h4⟩)⟩⟩
 have hfar : ∀ {k : Nat} {q : MO} {V1 : Value} {b : Nat}, k ≠ g → getH h k = some q → q.live = true → r k = some V1 → blk V1 = some b → blk V ≠ some b := fun hne h1 hl1 h2 hb e => hne (H.sep _ _ _ _ _ _ _ h1 hg hl1 hl h2 hV hb e)
 refine ⟨⟨fun k => ?_, fun k q V1 h1 h2 => ?_, fun k k' q q' V1 V2 b' h1 h2 l1 l2 h3 h4 h5 h6 => ?_, fun k q V1 b' h1 h2 h3 h4 => ?_, hg'.os.trans H.os, hg'.tape.trans H.tape, hg'.output.trans H.output, Nat.le_trans H.size hg'.size, fun k hk1 hx => ?_, H.m0, fun g V e => hold g V (H.pin g V e)⟩, E⟩
 ·refine dom_cons (h := (g, .dead) :: h) (fun k => ?_) k
  rw [getH_cons]
  by_cases e : g = k
  ·rw [if_pos e, ← e, hV]; rfl
  ·rw [if_neg e]; exact H.dom k
 ·rcases hget h1 h2 with ⟨rfl, rfl, rfl⟩ | ⟨rfl, rfl⟩ | ⟨_, hne, h1, h2⟩
  ·exact hro E
  ·trivial
  ·exact (H.objs k q V1 h1 h2).mono E (fun hl' b' hb' => hbk b' ((H.objs k q V1 h1 h2).lt hl' b' hb') (hfar hne h1 hl' h2 hb'))
 ·have key : ∀ {k : Nat} {q : MO} {V1 : Value}, k ≠ g → getH h k = some q → q.live = true → r k = some V1 → blk V1 = some b' → blk V' = some b' → False := by
   intro k q V1 hne h1 hl1 h2 hb hb2
   rcases hV' b' hb2 with h | h
   ·exact hfar hne h1 hl1 h2 hb h
   ·have := (H.objs _ _ _ h1 h2).lt hl1 b' hb; omega
  rcases hget h1 h3 with ⟨e1, e2, e3⟩ | ⟨_, e2⟩ | ⟨a1, n1, p1, p3⟩
  ·rcases hget h2 h4 with ⟨d1, d2, d3⟩ | ⟨_, d2⟩ | ⟨a2, n2, p2, p4⟩
   ·rw [e1, d1]
   ·rw [d2] at l2; cases l2
   ·exact (key n2 p2 l2 p4 h6 (e3 ▸ h5)).elim
  ·rw [e2] at l1; cases l1
  ·rcases hget h2 h4 with ⟨d1, d2, d3⟩ | ⟨_, d2⟩ | ⟨a2, n2, p2, p4⟩
   ·exact (key n1 p1 l1 p3 h5 (d3 ▸ h6)).elim
   ·rw [d2] at l2; cases l2
   ·exact H.sep _ _ _ _ V1 V2 b' p1 p2 l1 l2 p3 p4 h5 h6
 ·rcases hget h1 h3 with ⟨rfl, rfl, rfl⟩ | ⟨rfl, rfl⟩ | ⟨_, _, h1, h3⟩
  ·rcases hV' b' h4 with h5 | h5
   ·exact H.base g o V b' hg hl hV h5
   ·exact .inl (Nat.le_trans H.size h5)
  ·cases h2
  ·exact H.base k q V1 b' h1 h2 h3 h4
 ·refine (hbk k (Nat.lt_of_lt_of_le hk1 H.size) (fun e => ?_)).trans (H.frame k hk1 hx)
  rcases H.base g o V k hg hl hV e with h1 | h1
  ·omega
  ·exact hx h1
theorem HR.freeze (H : HR F r h w) {g : Nat} {T sz n : Nat} {els : Nat → AL} (hg : getH h g = some (.row T sz n els)) : ∃ V, r g = some V ∧ VR w (.im sz n els) r0 (Mut F.M0 r ((g, .dead) :: h)) V := by
 obtain ⟨V, hV⟩ := H.some_of hg
 obtain ⟨xs, ho, hv⟩ := H.objs g _ V hg hV
 obtain ⟨_, E⟩ := H.kill hg
 refine ⟨V, hV, ?_⟩
 unfold VR
 rcases ho.2 with ⟨rfl, hn⟩ | ⟨b, cap, cur, T0, fz, rfl, _, h2, h3, _, _, h6⟩
 ·exact .inl ⟨hn, rfl⟩
 ·refine .inr ⟨b, 0, cap, rfl, h3, (Array.getElem?_eq_some_iff.1 h2).1, ?_, fun i hi => ?_⟩
  ·rintro (hm | ⟨g', o', V', a1, a2, a3, a4⟩)
   ·rcases H.base g _ _ b hg rfl hV rfl with hb | hb
    ·have := (H.m0.1 b hm).1; omega
    ·exact (H.m0.1 b hm).2 hb
   ·rw [getH_cons] at a1
    by_cases e : g = g'
    ·rw [if_pos e] at a1; cases a1; cases a2
    ·rw [if_neg e] at a1
     exact e (H.sep g g' _ o' _ V' b hg a1 rfl a2 hV a3 rfl a4)
  ·obtain ⟨Us, a1, a2, a3⟩ := hv i hi
   refine ⟨Us, fun j U hj => ?_, a2, E.vrl0 a3⟩
   have hx := a1 j U hj
   rw [← h6, List.getElem?_take] at hx
   split at hx
   ·rw [cell_of_row w b _ cur T0 fz h2]
    simpa using hx
   ·cases hx
end Go.Proofs.YthjldemjipnmdaaGreatDoor.Sx
namespace Go.Proofs.YthjldemjipnmdaaGreatDoor.Sx
open Go.RowKit
inductive TK where
 | int (k : IntKind)
 | bool
 | string
 | struct (fl : List (Nat × Nat))
 | array (n e : Nat)
 | slice (e : Nat)
 | other
structure Ty where
 size : Nat
 bytes : Nat
 zero : List Value
 kind : TK
 plc : List (Nat × Nat) := []
def Ty.isAgg (t : Ty) : Bool := match t.kind with
 | .struct _ => true
 | .array _ _ => true
 | _ => false
def kindOk (d : TypeDesc) : TK → Prop
 | .int k => d = .int k
 | .bool => d = .bool
 | .string => d = .string
 | .struct fl => ∃ fs, d = .struct fs ∧ fs.toList.map (fun f => (f.offset, f.type)) = fl
 | .array n e => d = .array n e
 | .slice e => d = .slice e
 | .other => (match d with | .struct _ | .array _ _ => false | _ => true) = true
structure TyOk (P : Program) (t : Nat) (y : Ty) : Prop where
 info : ∃ i z, P.info? t = some i ∧ i.size = y.size ∧ i.bytes = y.bytes ∧ i.zero = some z ∧ z.cells.toList = y.zero ∧ (y.isAgg = true → z = .agg z.cells) ∧ (∀ U ∈ y.zero, U.oneCell' = true) ∧ y.zero.length = y.size
 kind : ∃ d, P.underlying t = some d ∧ kindOk d y.kind
 plc : ∀ fl, y.kind = .struct fl → ∃ fs : Array Field, P.underlying t = some (.struct fs) ∧ fs.toList.mapM (fun f => (P.info? f.type).map fun i => (f.offset, i.size)) = some y.plc
abbrev Tab := List (Nat × Ty)
def lookT : Tab → Nat → Option Ty
 | [], _ => none
 | (s, v) :: t, k => match Nat.beq s k with
  | true => some v
  | false => lookT t k
def TabOk (P : Program) (T : Tab) : Prop := ∀ t y, lookT T t = some y → TyOk P t y
theorem TabOk.nil (P : Program) : TabOk P [] := fun _ _ h => by cases h
theorem TabOk.cons {P : Program} {T : Tab} {t : Nat} {y : Ty} (h : TyOk P t y) (hT : TabOk P T) : TabOk P ((t, y) :: T) := fun k z hk => by
 unfold lookT at hk
 cases e : Nat.beq t k with
 | true => rw [e] at hk; rw [← Nat.eq_of_beq_eq_true e]; exact Option.some.inj hk ▸ h
 | false => rw [e] at hk; exact hT k z hk
section
variable {P : Program} {w : World} {t : Nat} {y : Ty}
theorem TyOk.run_size (h : TyOk P t y) : (sizeOf t).run P w = .ok y.size w := by
 obtain ⟨i, z, hi, hs, _⟩ := h.info
 simp [sizeOf, typeInfo, hi, hs]
theorem TyOk.run_isAgg (h : TyOk P t y) : (isAgg t).run P w = .ok y.isAgg w := by
 obtain ⟨d, hd, hk⟩ := h.kind
 unfold Ty.isAgg
 cases e : y.kind <;> rw [e] at hk <;> simp only [kindOk] at hk
 case struct fl => obtain ⟨fs, rfl, _⟩ := hk; simp [isAgg, run_underlying hd]
 case other => cases d <;> simp_all [isAgg, run_underlying hd]
 all_goals (subst hk; simp [isAgg, run_underlying hd])
end
def OpWp (P : Program) (F : Fr) (o : Oper) (t : Tm) (h : Hp) (v : AV) (h' : Hp) : Prop :=
 ∀ (r : Rho) (a : Act) (w : World), HR F r h w → TR w r (Mut F.M0 r h) t a → ∀ (next : Act → World → Prop) (Q : Exit → Act → World → Prop),
  (∀ V w' r', HR F r' h' w' → Evo F r h w r' h' w' → VR w' v r' (Mut F.M0 r' h') V → next (a.put o.dst V) w') → o.wp P a w next Q
section
variable {P : Program} {F : Fr} {o : Oper} {t : Tm} {h h' : Hp} {v : AV}
theorem OpWp.value (H : ∀ (r : Rho) (a : Act) (w : World), HR F r h w → TR w r (Mut F.M0 r h) t a → ∃ V w' r', (execOp a.eval o).run P w = .ok (.value V) w' ∧ HR F r' h' w' ∧ Evo F r h w r' h' w' ∧ VR w' v r' (Mut F.M0 r' h') V) : OpWp P F o t h v h' := by
 intro r a w hr ht next Q hn
 obtain ⟨V, w', r', he, h1, h2, h3⟩ := H r a w hr ht
 unfold Oper.wp
 rw [he]
 exact hn V w' r' h1 h2 h3
theorem OpWp.skip (H : ∀ (r : Rho) (a : Act) (w : World), HR F r h w → TR w r (Mut F.M0 r h) t a → ∃ w' r', (execOp a.eval o).run P w = .ok .skip w' ∧ HR F r' h' w' ∧ Evo F r h w r' h' w') : OpWp P F o t h .any h' := by
 intro r a w hr ht next Q hn
 obtain ⟨w', r', he, h1, h2⟩ := H r a w hr ht
 unfold Oper.wp
 rw [he]
 exact hn undef w' r' h1 h2 (by unfold VR; trivial)
theorem OpWp.pure (H : ∀ (r : Rho) (a : Act) (w : World), HR F r h w → TR w r (Mut F.M0 r h) t a → ∃ V, (execOp a.eval o).run P w = .ok (.value V) w ∧ VR w v r (Mut F.M0 r h) V) : OpWp P F o t h v h :=
 OpWp.value fun r a w hr ht => by
  obtain ⟨V, h1, h2⟩ := H r a w hr ht
  exact ⟨V, w, r, h1, hr, .refl F r h w, h2⟩
end
def ev (t : Tm) : Operand → AV
 | .tmp s => getT t s
 | .const v => .val v
 | .global g => .val (.pointer (some ⟨g, 0, none⟩))
 | .func f => .fn f .nil
theorem VR_ev {w : World} {r : Rho} {M : Cond} {t : Tm} {a : Act} (ht : TR w r M t a) (x : Operand) : VR w (ev t x) r M (a.eval x) := by
 cases x with
 | tmp s => exact ht s
 | const v => show VR w (.val v) r M v; unfold VR; rfl
 | global g => show VR w (.val _) r M _; unfold VR; rfl
 | func f => show VR w (.fn f .nil) r M _; unfold VR; exact ⟨#[], rfl, by unfold VRL; trivial⟩
theorem VR_val {w : World} {r : Rho} {M : Cond} {t : Tm} {a : Act} (ht : TR w r M t a) {x : Operand} {v : Value} (h : ev t x = .val v) : a.eval x = v := by
 have := VR_ev ht x
 rw [h] at this
 unfold VR at this
 exact this
theorem vr_val {w : World} {r : Rho} {M : Cond} {v : Value} : VR w (.val v) r M v := by unfold VR; rfl
section
variable {P : Program} {F : Fr} {t : Tm} {h : Hp} {d : Option Tmp} {ty : TypeId} {ps : String} {af : Array Edge} {gd : Option (Nat × Bool)}
theorem ok_move (x : Operand) : OpWp P F ⟨d, .move x, ty, ps, af, gd⟩ t h (ev t x) h :=
 OpWp.pure fun r a w hr ht => ⟨a.eval x, by simp [execOp], VR_ev ht x⟩
theorem ok_assign (x : Operand) : OpWp P F ⟨d, .assign x, ty, ps, af, gd⟩ t h (ev t x) h :=
 OpWp.pure fun r a w hr ht => ⟨a.eval x, by simp [execOp], VR_ev ht x⟩
theorem ok_pick (c x y : Operand) (b : Bool) (hc : ev t c = .val (.bool b)) : OpWp P F ⟨d, .pick c x y, ty, ps, af, gd⟩ t h (match b with | true => ev t x | false => ev t y) h :=
 OpWp.pure fun r a w hr ht => by
  have := VR_val ht hc
  cases b
  ·exact ⟨a.eval y, by simp [execOp, this, asBool], VR_ev ht y⟩
  ·exact ⟨a.eval x, by simp [execOp, this, asBool], VR_ev ht x⟩
theorem ok_extract (x : Operand) (i : Nat) (cs : AL) (hx : ev t x = .tup cs) (hi : i < cs.len) : OpWp P F ⟨d, .extract x i, ty, ps, af, gd⟩ t h (getL cs i) h :=
 OpWp.pure fun r a w hr ht => by
  have := VR_ev ht x
  rw [hx] at this
  unfold VR at this
  obtain ⟨vs, he, hv⟩ := this
  obtain ⟨U, h1, _, h3⟩ := hv.get i hi
  exact ⟨U, by rw [Array.getElem?_toList] at h1; simp [execOp, Instr.extract, he, h1], h3⟩
theorem ok_not (x : Operand) (T : Nat) (b : Bool) (hx : ev t x = .val (.bool b)) : OpWp P F ⟨d, .unOp .not T x, ty, ps, af, gd⟩ t h (.val (.bool (!b))) h :=
 OpWp.pure fun r a w hr ht => ⟨.bool (!b), by simp [execOp, VR_val ht hx, Op.unary], vr_val⟩
abbrev inK (k : IntKind) (n : Int) : Prop := match k with
 | .i8 => -128 ≤ n ∧ n ≤ 127
 | .i16 => -32768 ≤ n ∧ n ≤ 32767
 | .i32 => -2147483648 ≤ n ∧ n ≤ 2147483647
 | .i64 => -9223372036854775808 ≤ n ∧ n ≤ 9223372036854775807
 | .u8 => 0 ≤ n ∧ n ≤ 255
 | .u16 => 0 ≤ n ∧ n ≤ 65535
 | .u32 => 0 ≤ n ∧ n ≤ 4294967295
 | .u64 => 0 ≤ n ∧ n ≤ 18446744073709551615
abbrev i64B (n : Int) : Prop := -9223372036854775808 ≤ n ∧ n ≤ 9223372036854775807
theorem wrap_i64B {n : Int} (hn : i64B n) : IntKind.i64.wrap n = n := by rw [IntKind.wrap_i64]; unfold i64B at hn; omega
theorem ok_neg (x : Operand) (T : Nat) (n : Int) (hx : ev t x = .val (.int .i64 n)) (hn : i64B (0 - n)) : OpWp P F ⟨d, .unOp .neg T x, ty, ps, af, gd⟩ t h (.val (.int .i64 (-n))) h :=
 OpWp.pure fun r a w hr ht => ⟨.int .i64 (-n), by
  have := wrap_i64B hn
  simp only [Int.zero_sub] at this
  simp [execOp, VR_val ht hx, Op.unary, Op.intArith, this], vr_val⟩
def keq : IntKind → IntKind → Bool
 | .i8, .i8 => true
 | .i16, .i16 => true
 | .i32, .i32 => true
 | .i64, .i64 => true
 | .u8, .u8 => true
 | .u16, .u16 => true
 | .u32, .u32 => true
 | .u64, .u64 => true
 | _, _ => false
theorem keq_eq : ∀ {k k' : IntKind}, keq k k' = true → k = k' := by intro k k'; cases k <;> cases k' <;> simp [keq]
def intBin (op : BinOp) (k : IntKind) (a b : Int) : Option (Value × Option Prop) := match op with
 | .add => match k with | .i64 => some (.int .i64 (a + b), some (i64B (a + b))) | k => some (.int k (k.wrap (a + b)), none)
 | .sub => match k with | .i64 => some (.int .i64 (a - b), some (i64B (a - b))) | k => some (.int k (k.wrap (a - b)), none)
 | .mul => match k with | .i64 => some (.int .i64 (a * b), some (i64B (a * b))) | k => some (.int k (k.wrap (a * b)), none)
 | .quo => match k with | .i64 => some (.int .i64 (a / b), some (0 ≤ a ∧ a ≤ 9223372036854775807 ∧ 0 < b)) | _ => none
 | .rem => match k with | .i64 => some (.int .i64 (a % b), some (0 ≤ a ∧ 0 < b)) | _ => none
 | .lss => some (.bool (decide (a < b)), none)
 | .leq => some (.bool (decide (a ≤ b)), none)
 | .gtr => some (.bool (decide (b < a)), none)
 | .geq => some (.bool (decide (b ≤ a)), none)
 | .eql => some (.bool (decide (a = b)), none)
 | .neq => some (.bool (decide (a ≠ b)), none)
 | .and => some (.int k (Go.bits .and k a b), none)
 | .or => some (.int k (Go.bits .or k a b), none)
 | .xor => some (.int k (Go.bits .xor k a b), none)
 | _ => none
theorem intBin_ok {op : BinOp} {k : IntKind} {a b : Int} {v : Value} {s : Option Prop} (he : intBin op k a b = some (v, s)) (hs : ∀ p, s = some p → p) (T : Nat) (w : World) : (binOp op T (.int k a) (.int k b)).run P w = .ok v w := by
 unfold intBin at he
 cases op <;> simp only at he
 case add => cases k <;> simp only [Option.some.injEq, Prod.mk.injEq] at he <;> obtain ⟨rfl, rfl⟩ := he <;> simp [binOp, Op.intArith]; exact wrap_i64B (hs _ rfl)
 case sub => cases k <;> simp only [Option.some.injEq, Prod.mk.injEq] at he <;> obtain ⟨rfl, rfl⟩ := he <;> simp [binOp, Op.intArith]; exact wrap_i64B (hs _ rfl)
 case mul => cases k <;> simp only [Option.some.injEq, Prod.mk.injEq] at he <;> obtain ⟨rfl, rfl⟩ := he <;> simp [binOp, Op.intArith]; exact wrap_i64B (hs _ rfl)
 case quo =>
  cases k <;> simp only [Option.some.injEq, Prod.mk.injEq, reduceCtorEq] at he
  obtain ⟨rfl, rfl⟩ := he
  obtain ⟨h1, h2, h3⟩ := hs _ rfl
  have e : a.tdiv b = a / b := Int.tdiv_eq_ediv_of_nonneg h1
  have h4 : 0 ≤ a / b := Int.ediv_nonneg h1 (by omega)
  have h5 : a / b ≤ a := Int.ediv_le_self b h1
  simp [binOp, Op.intDiv, show b ≠ 0 by omega, e, wrap_i64B (show i64B (a / b) by unfold i64B; omega)]
 case rem =>
  cases k <;> simp only [Option.some.injEq, Prod.mk.injEq, reduceCtorEq] at he
  obtain ⟨rfl, rfl⟩ := he
  obtain ⟨h1, h3⟩ := hs _ rfl
  have e : a.tmod b = a % b := Int.tmod_eq_emod_of_nonneg h1
  simp [binOp, Op.intDiv, show b ≠ 0 by omega, e]
 case lss => simp only [Option.some.injEq, Prod.mk.injEq] at he; obtain ⟨rfl, rfl⟩ := he; simp [binOp, Op.intCmp]
 case leq => simp only [Option.some.injEq, Prod.mk.injEq] at he; obtain ⟨rfl, rfl⟩ := he; simp [binOp, Op.intCmp]
 case gtr => simp only [Option.some.injEq, Prod.mk.injEq] at he; obtain ⟨rfl, rfl⟩ := he; simp [binOp, Op.intCmp]
 case geq => simp only [Option.some.injEq, Prod.mk.injEq] at he; obtain ⟨rfl, rfl⟩ := he; simp [binOp, Op.intCmp]
 case eql => simp only [Option.some.injEq, Prod.mk.injEq] at he; obtain ⟨rfl, rfl⟩ := he; simp [binOp, Op.intCmp]; by_cases e : a = b <;> simp [e]
 case neq => simp only [Option.some.injEq, Prod.mk.injEq] at he; obtain ⟨rfl, rfl⟩ := he; simp [binOp, Op.intCmp]; by_cases e : a = b <;> simp [e]
 case and => simp only [Option.some.injEq, Prod.mk.injEq] at he; obtain ⟨rfl, rfl⟩ := he; simp [binOp, Op.intBits, Go.bits]
 case or => simp only [Option.some.injEq, Prod.mk.injEq] at he; obtain ⟨rfl, rfl⟩ := he; simp [binOp, Op.intBits, Go.bits]
 case xor => simp only [Option.some.injEq, Prod.mk.injEq] at he; obtain ⟨rfl, rfl⟩ := he; simp [binOp, Op.intBits, Go.bits]
 all_goals cases he
end
end Go.Proofs.YthjldemjipnmdaaGreatDoor.Sx
namespace Go.Proofs.YthjldemjipnmdaaGreatDoor.Sx
open Go.RowKit
section
variable {P : Program} {F : Fr} {t : Tm} {h : Hp} {d : Option Tmp} {ty : TypeId} {ps : String} {af : Array Edge} {gd : Option (Nat × Bool)}
theorem guard_int (op : BinOp) (T : Nat) (x y : Operand) (k k' : IntKind) (a b : Int) (w : World) : (eqGuard op T x y (.int k a) (.int k' b)).run P w = .ok () w := by
 unfold eqGuard; cases op <;> simp
theorem guard_str (op : BinOp) (T : Nat) (x y : Operand) (a b : ByteArray) (w : World) : (eqGuard op T x y (.string a) (.string b)).run P w = .ok () w := by
 unfold eqGuard; cases op <;> simp
theorem guard_bool (op : BinOp) (T : Nat) (x y : Operand) (a b : Bool) (w : World) : (eqGuard op T x y (.bool a) (.bool b)).run P w = .ok () w := by
 unfold eqGuard; cases op <;> simp
theorem ok_int (op : BinOp) (T T' : Nat) (x y : Operand) (k k' : IntKind) (a b : Int) (v : Value) (s : Option Prop) (hx : ev t x = .val (.int k a)) (hy : ev t y = .val (.int k' b)) (hk : keq k k' = true) (he : intBin op k a b = some (v, s)) (hs : ∀ p, s = some p → p) :
  OpWp P F ⟨d, .binOp op T x y T', ty, ps, af, gd⟩ t h (.val v) h :=
 OpWp.pure fun r a' w hr ht => by
  obtain rfl := keq_eq hk
  exact ⟨v, by simp [execOp, VR_val ht hx, VR_val ht hy, guard_int, intBin_ok he hs T w], vr_val⟩
def shBin (op : BinOp) (k : IntKind) (a b : Int) : Option Value := match op with
 | .shl => some (.int k (k.wrap (a * 2 ^ (min b.toNat k.bits))))
 | .shr => some (.int k (a.fdiv (2 ^ (min b.toNat k.bits))))
 | _ => none
theorem ok_shift (op : BinOp) (T T' : Nat) (x y : Operand) (k k' : IntKind) (a b : Int) (v : Value) (hx : ev t x = .val (.int k a)) (hy : ev t y = .val (.int k' b)) (he : shBin op k a b = some v) (hs : 0 ≤ b) :
  OpWp P F ⟨d, .binOp op T x y T', ty, ps, af, gd⟩ t h (.val v) h :=
 OpWp.pure fun r a' w hr ht => by
  refine ⟨v, ?_, vr_val⟩
  have hn : ¬ b < 0 := by omega
  unfold shBin at he
  cases op <;> simp only [reduceCtorEq, Option.some.injEq] at he
  ·subst he; simp [execOp, VR_val ht hx, VR_val ht hy, guard_int, binOp, Op.shift, hn]
  ·subst he; simp [execOp, VR_val ht hx, VR_val ht hy, guard_int, binOp, Op.shift, hn]
def strBin (op : BinOp) (a b : ByteArray) : Option (Value × Option Prop) := match op with
 | .add => some (.string (a ++ b), some (a.size + b.size ≤ 9223372036854775807))
 | .eql => some (.bool (decide (a = b)), none)
 | .neq => some (.bool (decide (a ≠ b)), none)
 | _ => none
theorem beq_str (a b : ByteArray) : (a.toList == b.toList) = decide (a = b) := by
 by_cases e : a = b
 ·subst e; simp
 ·rw [decide_eq_false e]
  refine beq_eq_false_iff_ne.2 fun h => e ?_
  have := congrArg List.toArray h
  rw [ByteArray.ext_iff]
  simpa [ByteArray.toList_eq] using this
theorem ok_str (op : BinOp) (T T' : Nat) (x y : Operand) (a b : ByteArray) (v : Value) (s : Option Prop) (hx : ev t x = .val (.string a)) (hy : ev t y = .val (.string b)) (he : strBin op a b = some (v, s)) (hs : ∀ p, s = some p → p) :
  OpWp P F ⟨d, .binOp op T x y T', ty, ps, af, gd⟩ t h (.val v) h :=
 OpWp.pure fun r a' w hr ht => by
  refine ⟨v, ?_, vr_val⟩
  unfold strBin at he
  cases op <;> simp only [reduceCtorEq, Option.some.injEq, Prod.mk.injEq] at he
  ·obtain ⟨rfl, rfl⟩ := he
   have h1 := hs _ rfl
   have h2 : (a.size : Int) + b.size ≤ 9223372036854775807 := by omega
   simp [execOp, VR_val ht hx, VR_val ht hy, guard_str, binOp, Op.stringOp, h2]
  ·obtain ⟨rfl, rfl⟩ := he
   simp [execOp, VR_val ht hx, VR_val ht hy, guard_str, binOp, Op.stringOp, beq_str]
  ·obtain ⟨rfl, rfl⟩ := he
   simp [execOp, VR_val ht hx, VR_val ht hy, guard_str, binOp, Op.stringOp, beq_str]
theorem ok_boolEq (neg : Bool) (op : BinOp) (T T' : Nat) (x y : Operand) (a b : Bool) (ho : op = match neg with | true => .neq | false => .eql) (hT : P.underlying T = some .bool) (hx : ev t x = .val (.bool a)) (hy : ev t y = .val (.bool b)) :
  OpWp P F ⟨d, .binOp op T x y T', ty, ps, af, gd⟩ t h (.val (.bool (match neg with | true => a != b | false => a == b))) h :=
 OpWp.pure fun r a' w hr ht => by
  have he := run_eql_bool (P := P) w T a b hT
  have hn := run_neq_bool (P := P) w T a b hT
  subst ho
  cases neg
  ·exact ⟨_, by simp [execOp, VR_val ht hx, VR_val ht hy, guard_bool, he], vr_val⟩
  ·exact ⟨_, by simp [execOp, VR_val ht hx, VR_val ht hy, guard_bool, hn, bne], vr_val⟩
end
end Go.Proofs.YthjldemjipnmdaaGreatDoor.Sx
namespace Go.Proofs.YthjldemjipnmdaaGreatDoor.Sx
open Go.RowKit
def dropL : AL → Nat → AL
 | l, 0 => l
 | .nil, _ + 1 => .nil
 | .cons _ l, n + 1 => dropL l n
def takeL : AL → Nat → AL
 | _, 0 => .nil
 | .nil, _ + 1 => .nil
 | .cons x l, n + 1 => .cons x (takeL l n)
def putL : AL → Nat → AL → AL
 | .nil, _, _ => .nil
 | l, 0, .nil => l
 | .cons _ l, 0, .cons y m => .cons y (putL l 0 m)
 | .cons x l, n + 1, m => .cons x (putL l n m)
section
variable {w : World} {one : Bool} {r : Rho} {M : Cond}
theorem VRL.drop : ∀ {l : AL} {Us : List Value} (n : Nat), VRL w l one r M Us → VRL w (dropL l n) one r M (Us.drop n)
 | .nil, [], 0, h => h
 | .nil, [], _ + 1, h => by unfold dropL; exact h
 | .nil, _ :: _, _, h => by unfold VRL at h; exact h.elim
 | .cons _ _, [], _, h => by unfold VRL at h; exact h.elim
 | .cons _ _, _ :: _, 0, h => h
 | .cons _ l, _ :: us, n + 1, h => by unfold VRL at h; unfold dropL; exact VRL.drop n h.2.2
theorem VRL.take : ∀ {l : AL} {Us : List Value} (n : Nat), VRL w l one r M Us → VRL w (takeL l n) one r M (Us.take n)
 | .nil, [], 0, _ => by unfold takeL VRL; trivial
 | .nil, [], _ + 1, _ => by unfold takeL VRL; trivial
 | .nil, _ :: _, _, h => by unfold VRL at h; exact h.elim
 | .cons _ _, [], _, h => by unfold VRL at h; exact h.elim
 | .cons _ _, _ :: _, 0, _ => by unfold takeL VRL; trivial
 | .cons _ l, _ :: us, n + 1, h => by unfold VRL at h; unfold takeL; simp only [List.take_succ_cons]; unfold VRL; exact ⟨h.1, h.2.1, VRL.take n h.2.2⟩
def putV : List Value → Nat → List Value → List Value
 | [], _, _ => []
 | l, 0, [] => l
 | _ :: l, 0, y :: m => y :: putV l 0 m
 | x :: l, n + 1, m => x :: putV l n m
theorem VRL.put : ∀ {l : AL} {Us : List Value} (n : Nat) {m : AL} {Ws : List Value}, VRL w l one r M Us → VRL w m one r M Ws → VRL w (putL l n m) one r M (putV Us n Ws)
 | .nil, [], _, _, _, _, _ => by unfold putL putV VRL; trivial
 | .nil, _ :: _, _, _, _, h, _ => by unfold VRL at h; exact h.elim
 | .cons _ _, [], _, _, _, h, _ => by unfold VRL at h; exact h.elim
 | .cons _ _, _ :: _, 0, .nil, [], h, _ => h
 | .cons _ _, _ :: _, 0, .nil, _ :: _, _, h => by unfold VRL at h; exact h.elim
 | .cons _ _, _ :: _, 0, .cons _ _, [], _, h => by unfold VRL at h; exact h.elim
 | .cons _ l, _ :: us, 0, .cons y m, z :: zs, h, h2 => by
  unfold VRL at h h2
  unfold putL putV VRL
  exact ⟨h2.1, h2.2.1, VRL.put 0 h.2.2 h2.2.2⟩
 | .cons _ l, _ :: us, n + 1, m, ws, h, h2 => by
  unfold VRL at h
  unfold putL putV VRL
  exact ⟨h.1, h.2.1, VRL.put n h.2.2 h2⟩
theorem putV_length : ∀ (l : List Value) (n : Nat) (m : List Value), (putV l n m).length = l.length
 | [], _, _ => rfl
 | _ :: _, 0, [] => rfl
 | _ :: l, 0, _ :: m => by unfold putV; simp [putV_length l 0 m]
 | _ :: l, n + 1, m => by unfold putV; simp [putV_length l n m]
theorem putV_eq : ∀ (l : List Value) (n : Nat) (m : List Value), n + m.length ≤ l.length → putV l n m = l.take n ++ m ++ l.drop (n + m.length)
 | [], 0, [], _ => rfl
 | [], 0, _ :: _, h => by simp at h
 | [], n + 1, m, h => by simp at h
 | x :: l, 0, [], _ => by simp [putV]
 | _ :: l, 0, y :: m, h => by
  unfold putV
  have := putV_eq l 0 m (by simp at h ⊢; omega)
  simp only [List.take_zero, List.nil_append, Nat.zero_add] at this
  simp [this]
 | x :: l, n + 1, m, h => by
  unfold putV
  rw [putV_eq l n m (by simp at h; omega)]
  simp [Nat.add_right_comm n 1]
end
def cellsA : AV → AL
 | .agg cs => cs
 | x => .cons x .nil
def fitA : AV → Bool
 | .any => false
 | .tup _ => false
 | .val v => v.oneCell'
 | _ => true
theorem fit_one {w : World} {r : Rho} {M : Cond} {x : AV} {V : Value} (hf : fitA x = true) (h : VR w x r M V) : VRL w (cellsA x) true r M V.cells.toList := by
 have single : V.oneCell' = true → cellsA x = .cons x .nil → VRL w (cellsA x) true r M V.cells.toList := by
  intro h1 h2
  have hc : V.cells = #[V] := by cases V <;> first | rfl | simp [Value.oneCell'] at h1
  rw [h2, hc]
  unfold VRL
  exact ⟨fun _ => h1, h, by unfold VRL; trivial⟩
 cases x with
 | any => cases hf
 | tup _ => cases hf
 | agg cs =>
  unfold VR at h
  obtain ⟨a, rfl, hv⟩ := h
  exact hv
 | val v => unfold VR at h; subst h; exact single hf rfl
 | ptr g j => have h' := h; unfold VR at h'; obtain ⟨b, _, rfl⟩ := h'; exact single rfl rfl
 | own g => have h' := h; unfold VR at h'; rcases h' with ⟨_, ⟨a, n, c, rfl⟩ | ⟨b, rfl⟩⟩ <;> exact single rfl rfl
 | pown g sz i j => have h' := h; unfold VR at h'; obtain ⟨b, n, c, _, rfl⟩ := h'; exact single rfl rfl
 | im sz n els => have h' := h; unfold VR at h'; rcases h' with ⟨_, rfl⟩ | ⟨b, off, cap, rfl, _⟩ <;> exact single rfl rfl
 | pim cs => have h' := h; unfold VR at h'; obtain ⟨b, off, rfl, _⟩ := h'; exact single rfl rfl
 | fn f cs => have h' := h; unfold VR at h'; obtain ⟨a, rfl, _⟩ := h'; exact single rfl rfl
section
variable {P : Program} {F : Fr} {t : Tm} {h : Hp} {d : Option Tmp} {ty : TypeId} {ps : String} {af : Array Edge} {gd : Option (Nat × Bool)}
def partA (y : Ty) (l : AL) (off : Nat) : AV := match y.isAgg with
 | true => .agg (takeL (dropL l off) y.size)
 | false => getL l off
theorem run_part {w : World} {r : Rho} {M : Cond} {t : Nat} {y : Ty} (hy : TyOk P t y) {l : AL} {a : Array Value} (hv : VRL w l true r M a.toList) (off : Nat) (ho : off + y.size ≤ l.len) (h1 : 0 < y.size) : ∃ V, (part t a off).run P w = .ok V w ∧ VR w (partA y l off) r M V := by
 have hlen := hv.length
 unfold partA
 cases e : y.isAgg with
 | true =>
  refine ⟨.agg (a.extract off (off + y.size)), by simp [part, hy.run_isAgg, hy.run_size, e], ?_⟩
  unfold VR
  refine ⟨_, rfl, ?_⟩
  have h2 := (hv.drop off).take y.size
  have e2 : (a.extract off (off + y.size)).toList = (a.toList.drop off).take y.size := by
   rw [Array.toList_extract]; simp [List.extract, Nat.add_sub_cancel_left]
  rw [e2]; exact h2
 | false =>
  obtain ⟨U, h2, _, h3⟩ := hv.get off (by omega)
  refine ⟨U, ?_, h3⟩
  rw [Array.getElem?_toList] at h2
  simp [part, hy.run_isAgg, e, h2]
theorem TyOk.fields {t : Nat} {y : Ty} (hy : TyOk P t y) {fl : List (Nat × Nat)} (hk : y.kind = .struct fl) : ∃ fs : Array Field, P.underlying t = some (.struct fs) ∧ ∀ (i off ft : Nat), fl[i]? = some (off, ft) → ∃ f : Field, fs[i]? = some f ∧ f.offset = off ∧ f.type = ft := by
 obtain ⟨dd, hd, hk'⟩ := hy.kind
 rw [hk] at hk'
 obtain ⟨fs, rfl, e⟩ := hk'
 refine ⟨fs, hd, fun i off ft hi => ?_⟩
 rw [← e, List.getElem?_map] at hi
 cases hf : fs.toList[i]? with
 | none => rw [hf] at hi; cases hi
 | some f =>
  rw [hf] at hi
  simp at hi
  exact ⟨f, by rw [← Array.getElem?_toList]; exact hf, hi.1, hi.2⟩
theorem ok_field (T i : Nat) (x : Operand) (cs : AL) (hx : ev t x = .agg cs) (y z : Ty) (hy : TyOk P T y) (fl : List (Nat × Nat)) (hk : y.kind = .struct fl) (off ft : Nat) (hf : fl[i]? = some (off, ft)) (hz : TyOk P ft z) (ho : off + z.size ≤ cs.len) (h1 : 0 < z.size) :
  OpWp P F ⟨d, .field T x i, ty, ps, af, gd⟩ t h (partA z cs off) h :=
 OpWp.pure fun r a w hr ht => by
  have hv := VR_ev ht x
  rw [hx] at hv
  unfold VR at hv
  obtain ⟨A, he, hv⟩ := hv
  obtain ⟨fs, hu, hfs⟩ := hy.fields hk
  obtain ⟨f, h2, h3, h4⟩ := hfs i off ft hf
  obtain ⟨V, h5, h6⟩ := run_part hz hv off ho h1
  refine ⟨V, ?_, h6⟩
  simp [execOp, Instr.field, run_underlying hu, h2, he, asAgg, h3, h4, h5]
def addA (x : AV) (n : Nat) : AV := match x with
 | .ptr g j => .ptr g (j + n)
 | .pown g sz i j => .pown g sz i (j + n)
 | .pim cs => .pim (dropL cs n)
 | _ => .any
theorem add_addr (b o n : Nat) : (⟨b, o, none⟩ : Addr).add n = ⟨b, o + n, none⟩ := by unfold Addr.add; split <;> simp_all
def isPtr : AV → Bool
 | .ptr _ _ => true
 | .pown _ _ _ _ => true
 | .pim _ => true
 | _ => false
theorem vr_add {w : World} {r : Rho} {M : Cond} {x : AV} {V : Value} (hp : isPtr x = true) (hv : VR w x r M V) : ∃ b o, V = .pointer (some ⟨b, o, none⟩) ∧ ∀ n, VR w (addA x n) r M (.pointer (some ⟨b, o + n, none⟩)) := by
 cases x <;> simp only [isPtr, Bool.false_eq_true] at hp <;> unfold VR at hv
 ·obtain ⟨b, h1, rfl⟩ := hv
  exact ⟨b, _, rfl, fun n => by unfold addA VR; exact ⟨b, h1, rfl⟩⟩
 ·obtain ⟨b, n', c, h1, rfl⟩ := hv
  exact ⟨b, _, rfl, fun n => by unfold addA VR; exact ⟨b, n', c, h1, by rw [Nat.add_assoc]⟩⟩
 ·obtain ⟨b, off, rfl, h1, h2, Us, h3, h4⟩ := hv
  refine ⟨b, off, rfl, fun n => ?_⟩
  unfold addA VR
  refine ⟨b, off + n, rfl, h1, h2, Us.drop n, fun j U hj => ?_, h4.drop n⟩
  rw [List.getElem?_drop] at hj
  rw [Nat.add_assoc]
  exact h3 _ U hj
theorem ok_fieldAddr (T i : Nat) (x : Operand) (hp : isPtr (ev t x) = true) (y z : Ty) (hy : TyOk P T y) (fl : List (Nat × Nat)) (hk : y.kind = .struct fl) (off ft : Nat) (hf : fl[i]? = some (off, ft)) (hz : TyOk P ft z) (h1 : 0 < z.size) :
  OpWp P F ⟨d, .fieldAddr T x i, ty, ps, af, gd⟩ t h (addA (ev t x) off) h :=
 OpWp.pure fun r a w hr ht => by
  obtain ⟨b, o, he, hv⟩ := vr_add hp (VR_ev ht x)
  obtain ⟨fs, hu, hfs⟩ := hy.fields hk
  obtain ⟨f, h2, h3, h4⟩ := hfs i off ft hf
  refine ⟨_, ?_, hv off⟩
  simp [execOp, Instr.fieldAt, run_underlying hu, h2, he, Instr.sureAddr, fieldPlace, h4, hz.run_size, show z.size ≠ 0 by omega, add_addr, h3]
theorem ok_nilCheck (x : Operand) (hp : isPtr (ev t x) = true) : OpWp P F ⟨d, .nilCheck x, ty, ps, af, gd⟩ t h (ev t x) h :=
 OpWp.pure fun r a w hr ht => by
  obtain ⟨b, o, he, _⟩ := vr_add hp (VR_ev ht x)
  exact ⟨a.eval x, by simp [execOp, he], VR_ev ht x⟩
end
end Go.Proofs.YthjldemjipnmdaaGreatDoor.Sx
namespace Go.Proofs.YthjldemjipnmdaaGreatDoor.Sx
open Go.RowKit
section
variable {P : Program} {F : Fr} {t : Tm} {h : Hp} {d : Option Tmp} {ty : TypeId} {ps : String} {af : Array Edge} {gd : Option (Nat × Bool)}
theorem TyOk.slice {T : Nat} {y : Ty} (hy : TyOk P T y) {e : Nat} (hk : y.kind = .slice e) : P.underlying T = some (.slice e) := by
 obtain ⟨dd, hd, hk'⟩ := hy.kind
 rw [hk] at hk'
 rw [hd, show dd = _ from hk']
theorem TyOk.array {T : Nat} {y : Ty} (hy : TyOk P T y) {n e : Nat} (hk : y.kind = .array n e) : P.underlying T = some (.array n e) := by
 obtain ⟨dd, hd, hk'⟩ := hy.kind
 rw [hk] at hk'
 rw [hd, show dd = _ from hk']
theorem TyOk.string {T : Nat} {y : Ty} (hy : TyOk P T y) (hk : y.kind = .string) : P.underlying T = some .string := by
 obtain ⟨dd, hd, hk'⟩ := hy.kind
 rw [hk] at hk'
 rw [hd, show dd = _ from hk']
theorem TyOk.int {T : Nat} {y : Ty} (hy : TyOk P T y) {k : IntKind} (hk : y.kind = .int k) : P.underlying T = some (.int k) := by
 obtain ⟨dd, hd, hk'⟩ := hy.kind
 rw [hk] at hk'
 rw [hd, show dd = _ from hk']
theorem TyOk.boolT {T : Nat} {y : Ty} (hy : TyOk P T y) (hk : y.kind = .bool) : P.underlying T = some .bool := by
 obtain ⟨dd, hd, hk'⟩ := hy.kind
 rw [hk] at hk'
 rw [hd, show dd = _ from hk']
theorem ok_idxIm (T : Nat) (x ix : Operand) (sz n : Nat) (els : Nat → AL) (k : IntKind) (i : Int) (y z : Ty) (e : Nat) (hx : ev t x = .im sz n els) (hi : ev t ix = .val (.int k i)) (hy : TyOk P T y) (hk : y.kind = .slice e) (hz : TyOk P e z) (hsz : z.size = sz) (hb : 0 ≤ i ∧ i < n) :
  OpWp P F ⟨d, .indexAddr T x ix, ty, ps, af, gd⟩ t h (.pim (els i.toNat)) h :=
 OpWp.pure fun r a w hr ht => by
  have hv := VR_ev ht x
  rw [hx] at hv
  unfold VR at hv
  rcases hv with ⟨hn, _⟩ | ⟨b, off, cap, he, hc, hbs, hM, hel⟩
  ·omega
  obtain ⟨Us, h1, h2, h3⟩ := hel i.toNat (by omega)
  refine ⟨.pointer (some ⟨b, off + i.toNat * sz, none⟩), ?_, ?_⟩
  ·simp [execOp, Instr.indexAt, VR_val ht hi, asIntOf, run_underlying (hy.slice hk), he, hb.1, hb.2, hz.run_size, add_addr, hsz]
  ·unfold VR
   exact ⟨b, _, rfl, hbs, hM, Us, h1, h3⟩
theorem ok_idxOwn (T : Nat) (x ix : Operand) (g T' sz n : Nat) (els : Nat → AL) (k : IntKind) (i : Int) (y z : Ty) (e : Nat) (hx : ev t x = .own g) (hg : getH h g = some (.row T' sz n els)) (hi : ev t ix = .val (.int k i)) (hy : TyOk P T y) (hk : y.kind = .slice e) (hz : TyOk P e z) (hsz : z.size = sz) (hb : 0 ≤ i ∧ i < n) :
  OpWp P F ⟨d, .indexAddr T x ix, ty, ps, af, gd⟩ t h (.pown g sz i.toNat 0) h :=
 OpWp.pure fun r a w hr ht => by
  have hv := VR_ev ht x
  rw [hx] at hv
  unfold VR at hv
  obtain ⟨hV, _⟩ := hv
  obtain ⟨xs, ho, _⟩ := hr.objs g _ _ hg hV
  rcases ho.2 with ⟨_, hn⟩ | ⟨b, cap, cur, T0, fz, he, h1, h2, h3, h4, h5, h6⟩
  ·omega
  refine ⟨.pointer (some ⟨b, i.toNat * sz, none⟩), ?_, ?_⟩
  ·simp [execOp, Instr.indexAt, VR_val ht hi, asIntOf, run_underlying (hy.slice hk), he, hb.1, hb.2, hz.run_size, add_addr, hsz]
  ·unfold VR
   exact ⟨b, n, cap, by rw [hV, he], by rw [Nat.add_zero]⟩
theorem ok_idxArr (T : Nat) (x ix : Operand) (g j n e : Nat) (k : IntKind) (i : Int) (y z : Ty) (hx : ev t x = .ptr g j) (hi : ev t ix = .val (.int k i)) (hy : TyOk P T y) (hk : y.kind = .array n e) (hz : TyOk P e z) (hb : 0 ≤ i ∧ i < n) :
  OpWp P F ⟨d, .indexAddr T x ix, ty, ps, af, gd⟩ t h (.ptr g (j + i.toNat * z.size)) h :=
 OpWp.pure fun r a w hr ht => by
  have hv := VR_ev ht x
  rw [hx] at hv
  unfold VR at hv
  obtain ⟨b, h1, he⟩ := hv
  refine ⟨.pointer (some ⟨b, j + i.toNat * z.size, none⟩), ?_, ?_⟩
  ·simp [execOp, Instr.indexAt, VR_val ht hi, asIntOf, run_underlying (hy.array hk), he, hb.1, hb.2, hz.run_size, add_addr, Instr.sureAddr]
  ·unfold VR
   exact ⟨b, h1, rfl⟩
def byteAt (s : ByteArray) (i : Int) : Int := ((s.data.toList.getD i.toNat 0).toNat : Int)
theorem ok_idxStr (T : Nat) (x ix : Operand) (s : ByteArray) (k : IntKind) (i : Int) (y : Ty) (hx : ev t x = .val (.string s)) (hi : ev t ix = .val (.int k i)) (hy : TyOk P T y) (hk : y.kind = .string) (hb : 0 ≤ i ∧ i < s.size) :
  OpWp P F ⟨d, .index T x ix, ty, ps, af, gd⟩ t h (.val (.int .u8 (byteAt s i))) h :=
 OpWp.pure fun r a w hr ht => by
  have hlt : i.toNat < s.size := by omega
  have e : s[i.toNat]? = some s[i.toNat] := by rw [getElem?_pos s i.toNat hlt]
  have e2 : byteAt s i = (s[i.toNat].toNat : Int) := by
   unfold byteAt
   have : s.data.toList.getD i.toNat 0 = s[i.toNat] := by
    have h1 : i.toNat < s.data.toList.length := by simpa using hlt
    rw [List.getD_eq_getElem?_getD, List.getElem?_eq_getElem h1]
    rfl
   rw [this]
  refine ⟨.int .u8 (byteAt s i), ?_, vr_val⟩
  simp [execOp, Instr.index, VR_val ht hx, VR_val ht hi, asIntOf, run_underlying (hy.string hk), hb.1, e, e2]
def intsA : AL → Option (List Int)
 | .nil => some []
 | .cons (.val (.int _ n)) l => (intsA l).map (n :: ·)
 | .cons _ _ => none
def kindA : AL → IntKind
 | .cons (.val (.int k _)) _ => k
 | _ => .i64
def allK (k : IntKind) : AL → Bool
 | .nil => true
 | .cons (.val (.int k' _)) l => keq k k' && allK k l
 | .cons _ _ => false
theorem ints_get {w : World} {r : Rho} {M : Cond} {k : IntKind} : ∀ {l : AL} {Us : List Value} {ns : List Int}, VRL w l true r M Us → intsA l = some ns → allK k l = true → ∀ j, j < ns.length → Us[j]? = some (.int k (ns.getD j 0))
 | .nil, [], ns, _, he, _, j, hj => by simp [intsA] at he; subst he; simp at hj
 | .nil, _ :: _, _, h, _, _, _, _ => by unfold VRL at h; exact h.elim
 | .cons _ _, [], _, h, _, _, _, _ => by unfold VRL at h; exact h.elim
 | .cons x l, U :: us, ns, h, he, hk, j, hj => by
  unfold VRL at h
  cases x with
  | val v =>
   cases v with
   | int k' n =>
    simp only [intsA] at he
    cases hl : intsA l with
    | none => rw [hl] at he; cases he
    | some ms =>
     rw [hl] at he
     simp at he
     subst he
     simp only [allK, Bool.and_eq_true] at hk
     have h1 := h.2.1
     unfold VR at h1
     cases j with
     | zero => rw [h1, keq_eq hk.1]; rfl
     | succ j => simpa using ints_get h.2.2 hl hk.2 j (by simpa using hj)
   | _ => simp [intsA] at he
  | _ => simp [intsA] at he
theorem ok_idxAgg (T : Nat) (x ix : Operand) (cs : AL) (ns : List Int) (n e : Nat) (k : IntKind) (i : Int) (y z : Ty) (hx : ev t x = .agg cs) (hi : ev t ix = .val (.int k i)) (hns : intsA cs = some ns) (hak : allK (kindA cs) cs = true) (hy : TyOk P T y) (hk : y.kind = .array n e) (hz : TyOk P e z) (hs : z.size = 1) (ha : z.isAgg = false) (hnl : ns.length = n) (hb : 0 ≤ i ∧ i < n) :
  OpWp P F ⟨d, .index T x ix, ty, ps, af, gd⟩ t h (.val (.int (kindA cs) (ns.getD i.toNat 0))) h :=
 OpWp.pure fun r a w hr ht => by
  have hv := VR_ev ht x
  rw [hx] at hv
  unfold VR at hv
  obtain ⟨A, he, hv⟩ := hv
  have h1 := ints_get hv hns hak i.toNat (by omega)
  rw [Array.getElem?_toList] at h1
  refine ⟨_, ?_, vr_val⟩
  simp [execOp, Instr.index, he, VR_val ht hi, asIntOf, run_underlying (hy.array hk), hb.1, hb.2, hz.run_size, hs, part, hz.run_isAgg, ha, h1]
def derefA (h : Hp) : AV → Option (AL × Nat)
 | .ptr g j => match getH h g with
  | some (.box _ cs) => some (cs, j)
  | _ => none
 | .pown g _ i j => match getH h g with
  | some (.row _ _ _ els) => some (els i, j)
  | _ => none
 | .pim cs => some (cs, 0)
 | _ => none
theorem deref_cells {w : World} {r : Rho} (hr : HR F r h w) {x : AV} {V : Value} (hv : VR w x r (Mut F.M0 r h) V) {cs : AL} {j : Nat} (hd : derefA h x = some (cs, j)) (hin : ∀ g sz i jj, x = .pown g sz i jj → ∀ T sz' n els, getH h g = some (.row T sz' n els) → sz' = sz ∧ i < n) :
  ∃ b o Us, V = .pointer (some ⟨b, o, none⟩) ∧ (∀ k U, (Us.drop j)[k]? = some U → w.cell? ⟨b, o + k, none⟩ = some U) ∧ VRL w cs true r (Mut F.M0 r h) Us := by
 cases x <;> simp only [derefA, reduceCtorEq] at hd
 case ptr g jj =>
  unfold VR at hv
  obtain ⟨b, h1, rfl⟩ := hv
  cases hg : getH h g with
  | none => rw [hg] at hd; cases hd
  | some o =>
   rw [hg] at hd
   cases o <;> simp only [reduceCtorEq, Option.some.injEq, Prod.mk.injEq] at hd
   obtain ⟨rfl, rfl⟩ := hd
   obtain ⟨b', c, e, h2, h3⟩ := hr.objs g _ _ hg h1
   cases e
   refine ⟨b, _, c.toList, rfl, fun k U hk => ?_, h3⟩
   rw [List.getElem?_drop] at hk
   rw [cell_of_row w b _ c _ (0, 0) h2]
   simpa using hk
 case pown g sz i jj =>
  unfold VR at hv
  obtain ⟨b, n, cc, h1, rfl⟩ := hv
  cases hg : getH h g with
  | none => rw [hg] at hd; cases hd
  | some o =>
   rw [hg] at hd
   cases o <;> simp only [reduceCtorEq, Option.some.injEq, Prod.mk.injEq] at hd
   obtain ⟨rfl, rfl⟩ := hd
   obtain ⟨rfl, hi⟩ := hin g sz i _ rfl _ _ _ _ hg
   obtain ⟨xs, ho, hel⟩ := hr.objs g _ _ hg h1
   obtain ⟨Us, h2, h3, h4⟩ := hel i hi
   rcases ho.2 with ⟨e, _⟩ | ⟨b', cap, cur, T0, fz, e, _, h5, _, _, _, h6⟩
   ·cases e
   cases e
   refine ⟨b, _, Us, rfl, fun k U hk => ?_, h4.lift⟩
   rw [List.getElem?_drop] at hk
   have hx := h2 _ U hk
   rw [← h6, List.getElem?_take] at hx
   split at hx
   ·rw [cell_of_row w b _ cur _ fz h5]
    rw [Nat.add_assoc]
    simpa using hx
   ·cases hx
 case pim cc =>
  simp only [Option.some.injEq, Prod.mk.injEq] at hd
  obtain ⟨rfl, rfl⟩ := hd
  unfold VR at hv
  obtain ⟨b, off, rfl, h1, h2, Us, h3, h4⟩ := hv
  exact ⟨b, off, Us, rfl, fun k U hk => by rw [List.drop_zero] at hk; exact h3 k U hk, h4.lift⟩
theorem ok_load (T : Nat) (x : Operand) (cs : AL) (j : Nat) (y : Ty) (hd' : derefA h (ev t x) = some (cs, j)) (hin : ∀ g sz i jj, ev t x = .pown g sz i jj → ∀ T sz' n els, getH h g = some (.row T sz' n els) → sz' = sz ∧ i < n) (hy : TyOk P T y) (ho : j + y.size ≤ cs.len) (h1 : 0 < y.size) :
  OpWp P F ⟨d, .load T x, ty, ps, af, gd⟩ t h (partA y cs j) h :=
 OpWp.pure fun r a w hr ht => by
  obtain ⟨b, o, Us, he, hc, hv⟩ := deref_cells hr (VR_ev ht x) hd' hin
  have hlen := hv.length
  unfold partA
  cases ea : y.isAgg with
  | true =>
   have hl := run_loadCells_list (P := P) w ⟨b, o, none⟩ ((Us.drop j).take y.size) (fun k U hk => by
    rw [add_addr]
    refine hc k U ?_
    rw [List.getElem?_take] at hk
    split at hk
    ·exact hk
    ·cases hk)
   have hlen2 : ((Us.drop j).take y.size).length = y.size := by rw [List.length_take, List.length_drop]; omega
   rw [hlen2] at hl
   refine ⟨.agg ((Us.drop j).take y.size).toArray, ?_, ?_⟩
   ·simp [execOp, Instr.loadAt, he, Instr.sureAddr, loadVar, hy.run_isAgg, ea, hy.run_size, hl]
   ·unfold VR
    exact ⟨_, rfl, (hv.drop j).take y.size⟩
  | false =>
   obtain ⟨U, h2, _, h3⟩ := hv.get j (by omega)
   have hU := hc 0 U (by rw [List.getElem?_drop]; simpa using h2)
   rw [Nat.add_zero] at hU
   refine ⟨U, ?_, h3⟩
   simp [execOp, Instr.loadAt, he, Instr.sureAddr, loadVar, hy.run_isAgg, ea, load, Sem.run, hU]
end
end Go.Proofs.YthjldemjipnmdaaGreatDoor.Sx
namespace Go.Proofs.YthjldemjipnmdaaGreatDoor.Sx
open Go.RowKit
def valsL : List Value → AL
 | [] => .nil
 | v :: l => .cons (.val v) (valsL l)
theorem vals_vr {w : World} {r : Rho} {M : Cond} : ∀ (l : List Value), (∀ U ∈ l, U.oneCell' = true) → VRL w (valsL l) true r M l
 | [], _ => by unfold valsL VRL; trivial
 | v :: l, h => by
  unfold valsL VRL
  exact ⟨fun _ => h v (List.mem_cons_self ..), vr_val, vals_vr l (fun U hU => h U (List.mem_cons_of_mem _ hU))⟩
section
variable {P : Program} {F : Fr} {t : Tm} {h : Hp} {ty : TypeId} {ps : String} {af : Array Edge} {gd : Option (Nat × Bool)}
theorem below_allocW (w : World) (o : Obj) : Below w.heap.size w (w.alloc o) := (Below.refl _ _).alloc (Nat.le_refl _) o
theorem new_box {w : World} {r : Rho} (hr : HR F r h w) {s T : Nat} (hs : getH h s = none) {cs : AL} {c : Array Value} (hv : VRL w cs true r (Mut F.M0 r h) c.toList) :
  ∃ r', HR F r' ((s, .box T cs) :: h) (w.alloc (.cells c T)) ∧ Evo F r h w r' ((s, .box T cs) :: h) (w.alloc (.cells c T)) ∧ VR (w.alloc (.cells c T)) (.ptr s 0) r' (Mut F.M0 r' ((s, .box T cs) :: h)) (.pointer (some ⟨w.heap.size, 0, none⟩)) := by
 obtain ⟨h1, h2⟩ := hr.new (below_allocW w (.cells c T)) hs (V := .pointer (some ⟨w.heap.size, 0, none⟩)) (fun b hb => by cases hb; exact Nat.le_refl _) (o := .box T cs) (fun E => ⟨w.heap.size, c, rfl, heap_alloc_new w _, E.vrl hv⟩)
 refine ⟨_, h1, h2, ?_⟩
 unfold VR
 exact ⟨w.heap.size, by unfold updR; rw [if_pos rfl], rfl⟩
theorem ok_box (s T : Nat) (x : Operand) (hf : fitA (ev t x) = true) (hs : getH h s = none) : OpWp P F ⟨some s, .box T x, ty, ps, af, gd⟩ t h (.ptr s 0) ((s, .box T (cellsA (ev t x))) :: h) :=
 OpWp.value fun r a w hr ht => by
  obtain ⟨r', h1, h2, h3⟩ := new_box hr (T := T) hs (fit_one hf (VR_ev ht x))
  refine ⟨_, _, r', ?_, h1, h2, h3⟩
  simp [execOp, Instr.box, newVar, newRow]
theorem ok_alloc (s T : Nat) (y : Ty) (hy : TyOk P T y) (hs : getH h s = none) : OpWp P F ⟨some s, .alloc T, ty, ps, af, gd⟩ t h (.ptr s 0) ((s, .box T (valsL y.zero)) :: h) :=
 OpWp.value fun r a w hr ht => by
  obtain ⟨i, z, h1, h2, h3, h4, h5, h6, h7, _⟩ := hy.info
  obtain ⟨r', k1, k2, k3⟩ := new_box hr (T := T) hs (cs := valsL y.zero) (c := z.cells) (by rw [h5]; exact vals_vr _ h7)
  refine ⟨_, _, r', ?_, k1, k2, k3⟩
  simp [execOp, Instr.alloc, newVar, newRow, zeroValue, typeInfo, h1, h4]
theorem fill_put : ∀ (parts : List (Nat × Value)) (place : Nat → Option (Nat × Nat)) (cells : Array Value), (∀ p ∈ parts, ∃ off, place p.1 = some (off, p.2.cells.size) ∧ off + p.2.cells.size ≤ cells.size) →
  ∃ out, Instr.fill place cells parts = some out ∧ out.toList = parts.foldl (fun l p => putV l ((place p.1).map (·.1) |>.getD 0) p.2.cells.toList) cells.toList ∧ out.size = cells.size
 | [], _, cells, _ => ⟨cells, rfl, rfl, rfl⟩
 | (i, v) :: rest, place, cells, h => by
  obtain ⟨off, h1, h2⟩ := h (i, v) (List.mem_cons_self ..)
  have key : ∀ (vs : List Value) (k : Nat) (cs : Array Value), off + k + vs.length ≤ cs.size → ((vs.zipIdx k).foldl (fun (cs : Array Value) (x : Value × Nat) => cs.setIfInBounds (off + x.2) x.1) cs).toList = putV cs.toList (off + k) vs := by
   intro vs
   induction vs with
   | nil => intro k cs hc; rw [putV_eq _ _ _ (by simpa using hc)]; simp
   | cons v vs ih =>
    intro k cs hc
    simp only [List.zipIdx_cons, List.foldl_cons]
    rw [ih (k + 1) (cs.setIfInBounds (off + k) v) (by simp at hc ⊢; omega)]
    rw [putV_eq _ _ _ (by simp at hc ⊢; omega), putV_eq _ _ _ (by simp at hc ⊢; omega)]
    simp only [Array.toList_setIfInBounds, List.length_cons]
    have e1 : (cs.toList.set (off + k) v).take (off + (k + 1)) = cs.toList.take (off + k) ++ [v] := by
     have hk : off + k < cs.toList.length := by simp at hc ⊢; omega
     rw [show off + (k + 1) = (off + k) + 1 by omega, List.take_succ_eq_append_getElem (by simpa using hk)]
     simp [List.take_set]
     rw [List.set_eq_of_length_le (by simp; omega)]
    have e2 : (cs.toList.set (off + k) v).drop (off + (k + 1) + vs.length) = cs.toList.drop (off + k + (vs.length + 1)) := by
     rw [List.drop_set_of_lt (by omega)]
     congr 1; omega
    rw [e1, e2]
    simp
  have hz := key v.cells.toList 0 cells (by simpa using h2)
  have hsz : ((v.cells.zipIdx.foldl (fun (cs : Array Value) (x : Value × Nat) => cs.setIfInBounds (off + x.2) x.1) cells)).toList = putV cells.toList off v.cells.toList := by
   rw [← Array.foldl_toList, Array.toList_zipIdx]; simpa using hz
  have hs2 : (v.cells.zipIdx.foldl (fun (cs : Array Value) (x : Value × Nat) => cs.setIfInBounds (off + x.2) x.1) cells).size = cells.size := by
   rw [← Array.length_toList, hsz, putV_length, Array.length_toList]
  obtain ⟨out, g1, g2, g3⟩ := fill_put rest place _ (fun p hp => by rw [hs2]; exact h p (List.mem_cons_of_mem _ hp))
  refine ⟨out, ?_, ?_, by rw [g3, hs2]⟩
  ·unfold Instr.fill
   simp only [h1]
   rw [if_neg (by simp; omega)]
   exact g1
  ·rw [g2, hsz]
   simp [h1]
end
end Go.Proofs.YthjldemjipnmdaaGreatDoor.Sx
namespace Go.Proofs.YthjldemjipnmdaaGreatDoor.Sx
open Go.RowKit
section
variable {P : Program} {F : Fr} {t : Tm} {h : Hp} {ty : TypeId} {ps : String} {af : Array Edge} {gd : Option (Nat × Bool)}
def layA (t : Tm) (plc : Nat → Option (Nat × Nat)) : List (Nat × Operand) → AL → Option AL
 | [], cur => some cur
 | (i, x) :: rest, cur => match plc i with
  | none => none
  | some (off, sz) => match fitA (ev t x), Nat.beq (cellsA (ev t x)).len sz, Nat.ble (off + sz) cur.len with
   | true, true, true => layA t plc rest (putL cur off (cellsA (ev t x)))
   | _, _, _ => none
theorem lay_ok {w : World} {r : Rho} {M : Cond} {a : Act} (ht : TR w r M t a) (plc : Nat → Option (Nat × Nat)) : ∀ (parts : List (Nat × Operand)) (cur out : AL) (Us : List Value), VRL w cur true r M Us → layA t plc parts cur = some out →
  (∀ p ∈ parts.map (fun p => (p.1, a.eval p.2)), ∃ off, plc p.1 = some (off, p.2.cells.size) ∧ off + p.2.cells.size ≤ Us.length) ∧
  VRL w out true r M ((parts.map (fun p => (p.1, a.eval p.2))).foldl (fun l p => putV l ((plc p.1).map (·.1) |>.getD 0) p.2.cells.toList) Us)
 | [], cur, out, Us, hv, he => by
  unfold layA at he
  obtain rfl := Option.some.inj he
  exact ⟨(fun p hp => by cases hp), hv⟩
 | (i, x) :: rest, cur, out, Us, hv, he => by
  unfold layA at he
  cases hp : plc i with
  | none => rw [hp] at he; cases he
  | some q =>
   obtain ⟨off, sz⟩ := q
   rw [hp] at he
   simp only at he
   split at he
   ·rename_i h1 h2 h3
    have hx := fit_one h1 (VR_ev ht x)
    have hl := hx.length
    have h2 := Nat.eq_of_beq_eq_true h2
    have h3 := Nat.le_of_ble_eq_true h3
    have hl2 := hv.length
    have hsz : (a.eval x).cells.size = sz := by rw [← Array.length_toList, hl, h2]
    obtain ⟨k1, k2⟩ := lay_ok ht plc rest _ out _ (hv.put off hx) he
    refine ⟨fun p hp' => ?_, ?_⟩
    ·simp only [List.map_cons, List.mem_cons] at hp'
     rcases hp' with rfl | hp'
     ·exact ⟨off, by simp [hp, hsz], by simp [hsz]; omega⟩
     ·obtain ⟨o, g1, g2⟩ := k1 p hp'
      exact ⟨o, g1, by rwa [putV_length] at g2⟩
    ·simpa [hp] using k2
   ·cases he
theorem ok_build {d : Option Tmp} (T : Nat) (parts : Array (Nat × Operand)) (y : Ty) (hy : TyOk P T y) (fl : List (Nat × Nat)) (hk : y.kind = .struct fl) (out : AL) (he : layA t (fun i => y.plc[i]?) parts.toList (valsL y.zero) = some out) :
  OpWp P F ⟨d, .build T parts, ty, ps, af, gd⟩ t h (.agg out) h :=
 OpWp.pure fun r a w hr ht => by
  obtain ⟨fs, hu, hm⟩ := hy.plc fl hk
  obtain ⟨i, z, h1, h2, h3, h4, h5, h6, h7, h8⟩ := hy.info
  have hz : VRL w (valsL y.zero) true r (Mut F.M0 r h) z.cells.toList := by rw [h5]; exact vals_vr _ h7
  obtain ⟨k1, k2⟩ := lay_ok ht (fun i => y.plc[i]?) parts.toList _ out _ hz he
  obtain ⟨C, c1, c2, c3⟩ := fill_put (parts.toList.map (fun p => (p.1, a.eval p.2))) (fun i => y.plc[i]?) z.cells (fun p hp => by simpa using k1 p hp)
  have hb : P.built T (parts.toList.map (fun p => (p.1, a.eval p.2))) = some C := by
   unfold Program.built
   simp only [h1, hu, h4, hm]
   simpa using c1
  have hr2 := run_build (P := P) w T (parts.map (fun p => (p.1, a.eval p.2))) C (by simpa using hb)
  refine ⟨.agg C, ?_, ?_⟩
  ·simp [execOp, hr2]
  ·unfold VR
   exact ⟨C, rfl, by rw [c2]; exact k2⟩
theorem ok_buildArr {d : Option Tmp} (T : Nat) (parts : Array (Nat × Operand)) (y z' : Ty) (hy : TyOk P T y) (n e : Nat) (hk : y.kind = .array n e) (hz' : TyOk P e z') (out : AL) (he : layA t (fun i => some (i * z'.size, z'.size)) parts.toList (valsL y.zero) = some out) :
  OpWp P F ⟨d, .build T parts, ty, ps, af, gd⟩ t h (.agg out) h :=
 OpWp.pure fun r a w hr ht => by
  obtain ⟨i, z, h1, h2, h3, h4, h5, h6, h7, h8⟩ := hy.info
  obtain ⟨i', z1, g1, g2, _⟩ := hz'.info
  have hz : VRL w (valsL y.zero) true r (Mut F.M0 r h) z.cells.toList := by rw [h5]; exact vals_vr _ h7
  obtain ⟨k1, k2⟩ := lay_ok ht (fun i => some (i * z'.size, z'.size)) parts.toList _ out _ hz he
  obtain ⟨C, c1, c2, c3⟩ := fill_put (parts.toList.map (fun p => (p.1, a.eval p.2))) (fun i => some (i * z'.size, z'.size)) z.cells (fun p hp => by simpa using k1 p hp)
  have hb : P.built T (parts.toList.map (fun p => (p.1, a.eval p.2))) = some C := by
   unfold Program.built
   simp only [h1, hy.array hk, h4, g1, g2]
   simpa using c1
  have hr2 := run_build (P := P) w T (parts.map (fun p => (p.1, a.eval p.2))) C (by simpa using hb)
  refine ⟨.agg C, ?_, ?_⟩
  ·simp [execOp, hr2]
  ·unfold VR
   exact ⟨C, rfl, by rw [c2]; exact k2⟩
def nthAL : List AL → Nat → AL
 | [], _ => .nil
 | x :: _, 0 => x
 | _ :: l, n + 1 => nthAL l n
def rowA (t : Tm) (sz : Nat) : Nat → List (Nat × Operand) → Option (List AL)
 | _, [] => some []
 | k, (i, x) :: rest => match Nat.beq i k, fitA (ev t x), Nat.beq (cellsA (ev t x)).len sz with
  | true, true, true => (rowA t sz (k + 1) rest).map (cellsA (ev t x) :: ·)
  | _, _, _ => none
theorem row_ok {w : World} {r : Rho} {M : Cond} {a : Act} (ht : TR w r M t a) (sz : Nat) : ∀ (parts : List (Nat × Operand)) (k : Nat) (out : List AL) (Us : List Value), rowA t sz k parts = some out → (k + parts.length) * sz ≤ Us.length →
  (∀ p ∈ parts.map (fun p => (p.1, a.eval p.2)), ∃ off, (fun i => some (i * sz, sz)) p.1 = some (off, p.2.cells.size) ∧ off + p.2.cells.size ≤ Us.length) ∧
  ∃ Ws : List (List Value), Ws.length = parts.length ∧ (∀ W ∈ Ws, W.length = sz) ∧ (∀ i, i < parts.length → VRL w (nthAL out i) true r M (Ws.getD i [])) ∧
   (parts.map (fun p => (p.1, a.eval p.2))).foldl (fun l p => putV l (((fun i => some (i * sz, sz)) p.1).map (·.1) |>.getD 0) p.2.cells.toList) Us = Us.take (k * sz) ++ Ws.flatten ++ Us.drop ((k + parts.length) * sz)
 | [], k, out, Us, he, hl => ⟨(fun p hp => by cases hp), [], rfl, (fun W hW => by cases hW), (fun i hi => by simp at hi), (by simp)⟩
 | (i, x) :: rest, k, out, Us, he, hl => by
  unfold rowA at he
  split at he
  ·rename_i h1 h2 h3
   obtain rfl := Nat.eq_of_beq_eq_true h1
   have h3 := Nat.eq_of_beq_eq_true h3
   have hx := fit_one h2 (VR_ev ht x)
   have hlx := hx.length
   have hsz : (a.eval x).cells.toList.length = sz := by rw [hlx, h3]
   cases hr : rowA t sz (i + 1) rest with
   | none => rw [hr] at he; cases he
   | some out' =>
    rw [hr] at he
    simp at he
    subst he
    have hlen : (i + (rest.length + 1)) * sz ≤ Us.length := hl
    have hmul : (i + 1 + rest.length) * sz = (i + (rest.length + 1)) * sz := by congr 1; omega
    have hi1 : (i + 1) * sz ≤ (i + (rest.length + 1)) * sz := Nat.mul_le_mul_right _ (by omega)
    have hi2 : (i + 1) * sz = i * sz + sz := by rw [Nat.add_mul, Nat.one_mul]
    obtain ⟨k1, Ws, k2, k3, k4, k5⟩ := row_ok ht sz rest (i + 1) out' (putV Us (i * sz) (a.eval x).cells.toList) hr (by rw [putV_length, hmul]; exact hlen)
    refine ⟨fun p hp => ?_, (a.eval x).cells.toList :: Ws, by simp [k2], fun W hW => ?_, fun j hj => ?_, ?_⟩
    ·simp only [List.map_cons, List.mem_cons] at hp
     rcases hp with rfl | hp
     ·refine ⟨i * sz, ?_, ?_⟩
      ·simp only [← Array.length_toList, hsz]
      ·simp only [← Array.length_toList, hsz]; omega
     ·obtain ⟨o, g1, g2⟩ := k1 p hp
      exact ⟨o, g1, by rwa [putV_length] at g2⟩
    ·rcases List.mem_cons.1 hW with rfl | hW
     ·exact hsz
     ·exact k3 W hW
    ·cases j with
     | zero => exact hx
     | succ j => exact k4 j (by simpa using hj)
    ·simp only [List.map_cons, List.foldl_cons]
     rw [show (((fun i => some (i * sz, sz)) i : Option (Nat × Nat)).map (·.1) |>.getD 0) = i * sz from rfl, k5, putV_eq _ _ _ (by rw [hsz]; omega), hsz]
     have hq : (a.eval x).cells.size = sz := by rw [← Array.length_toList]; exact hsz
     have hmin : min (i * sz) Us.length = i * sz := Nat.min_eq_left (by omega)
     have hA : (Us.take (i * sz) ++ (a.eval x).cells.toList).length = i * sz + sz := by simp [hq, hmin]
     have e1 : (Us.take (i * sz) ++ (a.eval x).cells.toList ++ Us.drop (i * sz + sz)).take ((i + 1) * sz) = Us.take (i * sz) ++ (a.eval x).cells.toList := by
      rw [hi2, ← hA]; exact List.take_left
     have e2 : (Us.take (i * sz) ++ (a.eval x).cells.toList ++ Us.drop (i * sz + sz)).drop ((i + 1 + rest.length) * sz) = Us.drop ((i + (rest.length + 1)) * sz) := by
      rw [hmul, List.drop_append, List.drop_of_length_le (by rw [hA]; omega), List.nil_append, List.drop_drop, hA]
      congr 1
      omega
     rw [e1, e2]
     simp
  ·cases he
end
end Go.Proofs.YthjldemjipnmdaaGreatDoor.Sx
namespace Go.Proofs.YthjldemjipnmdaaGreatDoor.Sx
open Go.RowKit
section
variable {P : Program} {F : Fr} {t : Tm} {h : Hp} {ty : TypeId} {ps : String} {af : Array Edge} {gd : Option (Nat × Bool)}
def elsOf : List AL → Nat → AL
 | [l], _ => l
 | ls, i => nthAL ls i
theorem elsOf_eq {ls : List AL} {i : Nat} (hi : i < ls.length) : elsOf ls i = nthAL ls i := by
 match ls, i, hi with
 | [l], 0, _ => rfl
 | _ :: _ :: _, _, _ => rfl
theorem flat_get : ∀ {Ws : List (List Value)} {sz : Nat}, (∀ W ∈ Ws, W.length = sz) → ∀ (i j : Nat) (U : Value), i < Ws.length → (Ws.getD i [])[j]? = some U → Ws.flatten[i * sz + j]? = some U
 | [], _, _, _, _, _, hi, _ => by simp at hi
 | W :: Ws, sz, h, 0, j, U, _, hj => by
  have hj' : W[j]? = some U := hj
  have : j < W.length := (List.getElem?_eq_some_iff.1 hj').1
  simp only [List.flatten_cons, Nat.zero_mul, Nat.zero_add]
  rw [List.getElem?_append_left this]; exact hj'
 | W :: Ws, sz, h, i + 1, j, U, hi, hj => by
  have h0 := h W (List.mem_cons_self ..)
  have := flat_get (fun V hV => h V (List.mem_cons_of_mem _ hV)) i j U (by simpa using hi) hj
  simp only [List.flatten_cons]
  rw [List.getElem?_append_right (by rw [h0, Nat.add_mul]; omega), h0]
  rw [show (i + 1) * sz + j - sz = i * sz + j by rw [Nat.add_mul]; omega]
  exact this
theorem flat_len : ∀ {Ws : List (List Value)} {sz : Nat}, (∀ W ∈ Ws, W.length = sz) → Ws.flatten.length = Ws.length * sz
 | [], _, _ => by simp
 | W :: Ws, sz, h => by
  simp only [List.flatten_cons, List.length_append, List.length_cons]
  rw [h W (List.mem_cons_self ..), flat_len (fun V hV => h V (List.mem_cons_of_mem _ hV)), Nat.add_mul]; omega
theorem rowA_len (sz : Nat) : ∀ (parts : List (Nat × Operand)) (k : Nat) (out : List AL), rowA t sz k parts = some out → out.length = parts.length
 | [], _, out, he => by unfold rowA at he; obtain rfl := Option.some.inj he; rfl
 | (i, x) :: rest, k, out, he => by
  unfold rowA at he
  split at he
  ·cases hr : rowA t sz (k + 1) rest with
   | none => rw [hr] at he; cases he
   | some out' => rw [hr] at he; simp at he; subst he; simp [rowA_len sz rest _ _ hr]
  ·cases he
theorem new_row {w w' : World} {r : Rho} (hr : HR F r h w) (hb : Below w.heap.size w w') {s T sz n : Nat} (hs : getH h s = none) {els : Nat → AL} {V : Value} {xs : List Value} (hV : ∀ b, blk V = some b → w.heap.size ≤ b) (hsl : ∃ a n c, V = .slice a n c) (ho : w'.ownsRow 0 T sz V n xs)
  (hv : ∀ i, i < n → ∃ Us : List Value, (∀ j U, Us[j]? = some U → xs[i * sz + j]? = some U) ∧ Us.length = sz ∧ VRL w (els i) true r0 (Mut F.M0 r h) Us) :
  ∃ r', HR F r' ((s, .row T sz n els) :: h) w' ∧ Evo F r h w r' ((s, .row T sz n els) :: h) w' ∧ VR w' (.own s) r' (Mut F.M0 r' ((s, .row T sz n els) :: h)) V := by
 obtain ⟨h1, h2⟩ := hr.new hb hs hV (o := .row T sz n els) (fun E => ⟨xs, rowOk.of ho, fun i hi => by
  obtain ⟨Us, a1, a2, a3⟩ := hv i hi
  exact ⟨Us, a1, a2, E.vrl0 a3⟩⟩)
 refine ⟨_, h1, h2, ?_⟩
 unfold VR
 exact ⟨by unfold updR; rw [if_pos rfl], .inl hsl⟩
mutual
def clA : AV → Bool
 | .ptr _ _ => false
 | .own _ => false
 | .pown _ _ _ _ => false
 | .agg cs => clL cs
 | .tup cs => clL cs
 | .fn _ cs => clL cs
 | _ => true
def clL : AL → Bool
 | .nil => true
 | .cons x l => clA x && clL l
end
mutual
theorem VR.closed {w : World} {M : Cond} {r r' : Rho} : ∀ (x : AV) {V : Value}, clA x = true → VR w x r M V → VR w x r' M V
 | .any, _, _, h => by unfold VR at *; trivial
 | .val _, _, _, h => by unfold VR at *; exact h
 | .ptr _ _, _, hc, _ => by simp [clA] at hc
 | .own _, _, hc, _ => by simp [clA] at hc
 | .pown _ _ _ _, _, hc, _ => by simp [clA] at hc
 | .im _ _ _, _, _, h => by unfold VR at *; exact h
 | .pim _, _, _, h => by unfold VR at *; exact h
 | .agg cs, _, hc, h => by unfold VR at *; obtain ⟨a, e, h⟩ := h; exact ⟨a, e, VRL.closed cs (by simpa [clA] using hc) h⟩
 | .tup cs, _, hc, h => by unfold VR at *; obtain ⟨a, e, h⟩ := h; exact ⟨a, e, VRL.closed cs (by simpa [clA] using hc) h⟩
 | .fn _ cs, _, hc, h => by unfold VR at *; obtain ⟨a, e, h⟩ := h; exact ⟨a, e, VRL.closed cs (by simpa [clA] using hc) h⟩
theorem VRL.closed {w : World} {M : Cond} {r r' : Rho} : ∀ (l : AL) {one : Bool} {Us : List Value}, clL l = true → VRL w l one r M Us → VRL w l one r' M Us
 | .nil, _, [], _, _ => by unfold VRL; trivial
 | .nil, _, _ :: _, _, h => by unfold VRL at h; exact h.elim
 | .cons _ _, _, [], _, h => by unfold VRL at h; exact h.elim
 | .cons x l, _, _ :: _, hc, h => by
  simp only [clL, Bool.and_eq_true] at hc
  unfold VRL at *
  exact ⟨h.1, VR.closed x hc.1 h.2.1, VRL.closed l hc.2 h.2.2⟩
end
def allC : List AL → Bool
 | [] => true
 | l :: ls => clL l && allC ls
theorem nth_cl : ∀ {ls : List AL} (i : Nat), allC ls = true → clL (nthAL ls i) = true
 | [], _, _ => by unfold nthAL clL; rfl
 | _ :: _, 0, h => by unfold allC at h; exact (Bool.and_eq_true .. ▸ h).1
 | _ :: ls, i + 1, h => by unfold allC at h; exact nth_cl i (Bool.and_eq_true .. ▸ h).2
theorem ok_buildSlice (s T n : Nat) (parts : Array (Nat × Operand)) (y z : Ty) (hy : TyOk P T y) (e : Nat) (hk : y.kind = .slice e) (hz : TyOk P e z) (hsz : 0 < z.size) (out : List AL) (he : rowA t z.size 0 parts.toList = some out) (hn : parts.size = n) (hc : allC out = true) (hs : getH h s = none) (hsmall : n * z.size ≤ 1000000) :
  OpWp P F ⟨some s, .buildSlice T n parts, ty, ps, af, gd⟩ t h (.own s) ((s, .row e z.size n (elsOf out)) :: h) :=
 OpWp.value fun r a w hr ht => by
  obtain ⟨i, zv, h1, h2, h3, h4, h5, h6, h7, h8⟩ := hz.info
  let C0 : Array Value := (Array.range (n * z.size)).map fun k => zv.cells[k % zv.cells.size]!
  have hC0 : C0.toList.length = n * z.size := by simp [C0]
  have hpn : parts.toList.length = n := by simpa using hn
  obtain ⟨k1, Ws, k2, k3, k4, k5⟩ := row_ok ht z.size parts.toList 0 out C0.toList he (by rw [hC0, hpn, Nat.zero_add]; exact Nat.le_refl _)
  obtain ⟨C, c1, c2, c3⟩ := fill_put (parts.toList.map (fun p => (p.1, a.eval p.2))) (fun i => some (i * z.size, z.size)) C0 (fun p hp => by simpa using k1 p hp)
  have hCW : C.toList = Ws.flatten := by
   rw [c2, k5, Nat.zero_add, hpn, List.drop_of_length_le (by rw [hC0]; exact Nat.le_refl _)]
   simp
  have hol := rowA_len z.size parts.toList 0 out he
  have hlenC : C.toList.length = n * z.size := by rw [hCW, flat_len k3, k2, hpn]
  have ho : (w.alloc (.cells C e)).ownsRow 0 e z.size (.slice (some ⟨w.heap.size, 0, none⟩) n n) n C.toList := by
   refine ⟨hlenC, .inr ⟨w.heap.size, n, C, rfl, Nat.zero_le _, heap_alloc_new w _, Nat.le_refl _, ?_, by rw [← Array.length_toList]; exact hlenC, ?_⟩⟩
   ·have : n ≤ n * z.size := Nat.le_mul_of_pos_right n hsz
    unfold maxLen; omega
   ·exact List.take_of_length_le (by rw [hlenC]; exact Nat.le_refl _)
  obtain ⟨r', g1, g2, g3⟩ := new_row hr (below_allocW w (.cells C e)) hs (els := elsOf out) (V := .slice (some ⟨w.heap.size, 0, none⟩) n n) (fun b hb => by cases hb; exact Nat.le_refl _) ⟨_, _, _, rfl⟩ ho (fun i hi => by
   refine ⟨Ws.getD i [], fun j U hj => ?_, ?_, ?_⟩
   ·rw [hCW]; exact flat_get k3 i j U (by omega) hj
   ·have hi' : i < Ws.length := by omega
    rw [List.getD_eq_getElem?_getD, List.getElem?_eq_getElem hi']
    exact k3 _ (List.getElem_mem hi')
   ·rw [elsOf_eq (by omega)]
    exact VRL.closed _ (nth_cl i hc) (k4 i (by omega)))
  refine ⟨_, _, r', ?_, g1, g2, g3⟩
  have hne : ¬ (n * z.size > 2 ^ 24) := by omega
  by_cases h0 : n * z.size = 0
  ·have hn0 : n = 0 := by
    rcases Nat.mul_eq_zero.1 h0 with h | h
    ·exact h
    ·omega
   subst hn0
   have hp0 : parts = #[] := Array.eq_empty_of_size_eq_zero hn
   subst hp0
   have : C = #[] := Array.eq_empty_of_size_eq_zero (by rw [← Array.length_toList, hlenC]; simp)
   subst this
   have hm : ∀ f : Nat → Value, Array.map f (Array.range 0) = #[] := fun f => Array.eq_empty_of_size_eq_zero (by simp)
   simp [execOp, Instr.buildSlice, run_underlying (hy.slice hk), hz.run_size, newRow, Instr.fill, hm]
  ·have c1' : Instr.fill (fun i => some (i * z.size, z.size)) C0 (parts.toList.map (fun p => (p.1, a.eval p.2))) = some C := c1
   simp only [C0] at c1'
   simp [execOp, Instr.buildSlice, run_underlying (hy.slice hk), hz.run_size, hne, h0, newRow, zeroValue, typeInfo, h1, h4, c1']
theorem ok_storeBox (T : Nat) (x v : Operand) (g j T' : Nat) (cs : AL) (y : Ty) (hx : ev t x = .ptr g j) (hg : getH h g = some (.box T' cs)) (hf : fitA (ev t v) = true) (hy : TyOk P T y) (hl : (cellsA (ev t v)).len = y.size) (hb : j + y.size ≤ cs.len) :
  OpWp P F ⟨none, .store T x v, ty, ps, af, gd⟩ t h .any ((g, .box T' (putL cs j (cellsA (ev t v)))) :: h) :=
 OpWp.skip fun r a w hr ht => by
  have hx' := VR_ev ht x
  rw [hx] at hx'
  unfold VR at hx'
  obtain ⟨b, h1, he⟩ := hx'
  have hv := fit_one hf (VR_ev ht v)
  have hvl := hv.length
  obtain ⟨b', c, e, h2, h3⟩ := hr.objs g _ _ hg h1
  cases e
  have hcl := h3.length
  have hst := run_storeCells_at P b j T' (a.eval v).cells.toList 0 c w h2 (by rw [hvl, hl, ← Array.length_toList, hcl]; omega) hv.one
  have hcs : (a.eval v).cells.size = y.size := by rw [← Array.length_toList, hvl, hl]
  obtain ⟨k1, k2⟩ := hr.set (w' := w.setRow b (c.toList.take (j + 0) ++ (a.eval v).cells.toList ++ c.toList.drop (j + 0 + (a.eval v).cells.toList.length)).toArray) hg rfl h1 (b := b) rfl rfl rfl rfl (by simp) (fun k _ hne => setRow_other w b k _ hne)
   (o' := .box T' (putL cs j (cellsA (ev t v)))) (fun E => ⟨b, _, rfl, setRow_heap w b c _ T' (0, 0) h2, by
    have := E.vrl (h3.put j hv)
    rw [putV_eq _ _ _ (by rw [hvl, hl, hcl]; omega)] at this
    simpa using this⟩)
  refine ⟨_, r, ?_, k1, k2⟩
  simp [execOp, Instr.storeAt, he, Instr.sureAddr, storeVar, hy.run_size, hcs, hst]
theorem store_row (P : Program) (g o : Nat) (t : TypeId) (fz : Nat × Nat) : ∀ (vs : List Value) (i : Nat) (cur : Array Value) (w : World), (fz = (0, 0) ∨ cur.size ≤ fz.1) → w.heap[g]? = some (.cells cur t fz) → o + i + vs.length ≤ cur.size → (∀ v ∈ vs, v.oneCell' = true) →
  (storeCells ⟨g, o, none⟩ vs i).run P w = .ok () (w.setRow g (cur.toList.take (o + i) ++ vs ++ cur.toList.drop (o + i + vs.length)).toArray)
 | [], i, cur, w, _, hg, _, _ => by
  simp only [storeCells, List.append_nil, List.length_nil, Nat.add_zero, List.take_append_drop, Array.toArray_toList]
  rw [setRow_self w g cur t fz hg]
  rfl
 | v :: rest, i, cur, w, hz, hg, hl, h1 => by
  have hi : o + i < cur.size := by simp at hl; omega
  have hadd : (⟨g, o, none⟩ : Addr).add i = ⟨g, o + i, none⟩ := by unfold Addr.add; split <;> simp_all
  have hcell : w.cell? ⟨g, o + i, none⟩ = some cur[o + i] := by simp [World.cell?, hg, hi]
  have hfro : w.frozen? ⟨g, o + i, none⟩ = false := by
   obtain ⟨lo, hi'⟩ := fz
   simp only [World.frozen?, hg, Bool.and_eq_false_iff, decide_eq_false_iff_not]
   rcases hz with hz | hz
   ·cases hz; right; omega
   ·left; simp only at hz; omega
  have hst : (store ((⟨g, o, none⟩ : Addr).add i) v).run P w = .ok () (w.setRow g (cur.setIfInBounds (o + i) v)) := by
   rw [hadd, run_store P w _ v _ (h1 v (by simp)), hcell]
   simp [hfro, setCell_eq_setRow w g (o + i) cur t fz v hg]
  have ih := store_row P g o t fz rest (i + 1) (cur.setIfInBounds (o + i) v) (w.setRow g (cur.setIfInBounds (o + i) v)) (by simpa using hz) (setRow_heap w g cur _ t _ hg) (by simp at hl ⊢; omega) (fun x hx => h1 x (by simp [hx]))
  simp only [storeCells, Sem.run_bind, hst, Result.andThen_ok, ih, setRow_setRow]
  congr 3
  have e := list_seg_step cur.toList (o + i) v rest (by simp at hl ⊢; omega)
  simpa [Array.toList_setIfInBounds, Nat.add_assoc] using e
theorem ownsRow_put {w : World} {T sz n b cap : Nat} {cur : Array Value} {xs vs : List Value} {o : Nat} (hs : n * sz ≤ cur.size) (htk : cur.toList.take (n * sz) = xs) (ho : o + vs.length ≤ n * sz) {T0 : TypeId} {fz : Nat × Nat} (hmk : (T0 = T ∧ fz = (0, 0)) ∨ (T = mkT ∧ cur.size ≤ fz.1)) (hg : w.heap[b]? = some (.cells cur T0 fz)) (hnc : n ≤ cap) (hcm : cap ≤ maxLen) (hcs : cur.size = cap * sz) :
  rowOk (w.setRow b (cur.toList.take o ++ vs ++ cur.toList.drop (o + vs.length)).toArray) T sz (.slice (some ⟨b, 0, none⟩) n cap) n (putV xs o vs) := by
 have hxl : xs.length = n * sz := by rw [← htk, List.length_take, Array.length_toList]; omega
 refine ⟨by rw [putV_length, hxl], .inr ⟨b, cap, _, T0, fz, rfl, hmk.imp id (fun h => ⟨h.1, by simp; omega⟩), setRow_heap w b cur _ T0 fz hg, hnc, hcm, ?_, ?_⟩⟩
 ·simp; omega
 ·rw [putV_eq _ _ _ (by omega), ← htk]
  simp only [List.append_assoc]
  rw [List.take_append, List.take_append, List.take_take, List.drop_take]
  have e1 : (cur.toList.take o).length = o := by simp; omega
  rw [e1, List.take_of_length_le (show vs.length ≤ n * sz - o by omega), Nat.sub_sub, List.take_take, Nat.min_comm]
theorem ok_storeRow (T : Nat) (x v : Operand) (g sz i j T' n : Nat) (els : Nat → AL) (y : Ty) (hx : ev t x = .pown g sz i j) (hg : getH h g = some (.row T' sz n els)) (hf : fitA (ev t v) = true) (hc : clA (ev t v) = true) (hy : TyOk P T y) (hl : (cellsA (ev t v)).len = y.size) (hb : j + y.size ≤ sz) (hi : i < n) :
  OpWp P F ⟨none, .store T x v, ty, ps, af, gd⟩ t h .any ((g, .row T' sz n (fun k => if k = i then putL (els i) j (cellsA (ev t v)) else els k)) :: h) :=
 OpWp.skip fun r a w hr ht => by
  have hx' := VR_ev ht x
  rw [hx] at hx'
  unfold VR at hx'
  obtain ⟨b, n', cc, h1, he⟩ := hx'
  have hv := fit_one hf (VR_ev ht v)
  have hvl := hv.length
  have hv0 : VRL w (cellsA (ev t v)) true r0 (Mut F.M0 r h) (a.eval v).cells.toList := by
   refine VRL.closed _ ?_ hv
   cases hq : ev t v <;> rw [hq] at hc <;> simp only [clA, Bool.false_eq_true] at hc <;> simp only [cellsA, clL, clA, Bool.and_true, hc]
  obtain ⟨xs, ho, hel⟩ := hr.objs g _ _ hg h1
  rcases ho.2 with ⟨e, _⟩ | ⟨b', cap, cur, T0, fz, e, hmk, h2, h3, h4, h5, h6⟩
  ·cases e
  cases e
  have hxl := ho.1
  have hmul : (i + 1) * sz ≤ n * sz := Nat.mul_le_mul_right _ hi
  have hmul2 : (i + 1) * sz = i * sz + sz := by rw [Nat.add_mul, Nat.one_mul]
  have hcur : n * sz ≤ cur.size := by rw [h5]; exact Nat.mul_le_mul_right _ h3
  have hst := store_row P b (i * sz + j) T0 fz (a.eval v).cells.toList 0 cur w (hmk.imp (·.2) (·.2)) h2 (by rw [hvl, hl]; omega) hv.one
  rw [Nat.add_zero] at hst
  have hcs : (a.eval v).cells.size = y.size := by rw [← Array.length_toList, hvl, hl]
  obtain ⟨k1, k2⟩ := hr.set (w' := w.setRow b (cur.toList.take (i * sz + j) ++ (a.eval v).cells.toList ++ cur.toList.drop (i * sz + j + (a.eval v).cells.toList.length)).toArray) hg rfl h1 (b := b) rfl rfl rfl rfl (by simp) (fun k _ hne => setRow_other w b k _ hne)
   (o' := .row T' sz n (fun k => if k = i then putL (els i) j (cellsA (ev t v)) else els k)) (fun E => ⟨putV xs (i * sz + j) (a.eval v).cells.toList, ownsRow_put hcur h6 (by rw [hvl, hl]; omega) hmk h2 h3 h4 h5, fun k hk => by
    have hp := putV_eq xs (i * sz + j) (a.eval v).cells.toList (by rw [hvl, hl, hxl]; omega)
    by_cases hki : k = i
    ·subst hki
     obtain ⟨Us, a1, a2, a3⟩ := hel k hk
     refine ⟨putV Us j (a.eval v).cells.toList, fun m U hm => ?_, by rw [putV_length, a2], by simp only [if_true]; exact E.vrl0 (a3.put j hv0)⟩
     have hq := putV_eq Us j (a.eval v).cells.toList (by rw [hvl, hl, a2]; omega)
     rw [hq] at hm
     rw [hp]
     have hml : m < sz := by
      have := (List.getElem?_eq_some_iff.1 hm).1
      rw [← hq, putV_length, a2] at this
      exact this
     simp only [List.append_assoc] at hm ⊢
     rw [List.getElem?_append] at hm ⊢
     rw [List.getElem?_append] at hm ⊢
     simp only [List.length_take, a2, hxl] at hm ⊢
     have e1 : min j sz = j := by omega
     have e2 : min (k * sz + j) (n * sz) = k * sz + j := by omega
     rw [e1] at hm
     rw [e2]
     by_cases c1 : m < j
     ·rw [if_pos c1, List.getElem?_take, if_pos c1] at hm
      rw [if_pos (by omega), List.getElem?_take, if_pos (by omega)]
      exact a1 m U hm
     ·rw [if_neg c1] at hm
      rw [if_neg (by omega)]
      rw [show k * sz + m - (k * sz + j) = m - j by omega]
      by_cases c2 : m - j < (a.eval v).cells.toList.length
      ·rw [if_pos c2] at hm ⊢; exact hm
      ·rw [if_neg c2] at hm ⊢
       rw [List.getElem?_drop] at hm ⊢
       have := a1 _ U hm
       rw [show k * sz + j + (a.eval v).cells.toList.length + (m - j - (a.eval v).cells.toList.length) = k * sz + (j + (a.eval v).cells.toList.length + (m - j - (a.eval v).cells.toList.length)) by omega]
       exact this
    ·obtain ⟨Us, a1, a2, a3⟩ := hel k hk
     refine ⟨Us, fun m U hm => ?_, a2, by simp only [if_neg hki]; exact E.vrl0 a3⟩
     have hml : m < sz := by
      have := (List.getElem?_eq_some_iff.1 hm).1
      omega
     have hx0 := a1 m U hm
     rw [hp]
     simp only [List.append_assoc]
     rw [List.getElem?_append, List.getElem?_append]
     simp only [List.length_take, hxl]
     have e2 : min (i * sz + j) (n * sz) = i * sz + j := by omega
     rw [e2]
     rcases Nat.lt_or_gt_of_ne hki with hlt | hgt
     ·have : (k + 1) * sz ≤ i * sz := Nat.mul_le_mul_right _ hlt
      rw [Nat.add_mul, Nat.one_mul] at this
      rw [if_pos (by omega), List.getElem?_take, if_pos (by omega)]
      exact hx0
     ·have : (i + 1) * sz ≤ k * sz := Nat.mul_le_mul_right _ hgt
      rw [if_neg (by omega), if_neg (by rw [hvl, hl]; omega), List.getElem?_drop]
      rw [show i * sz + j + (a.eval v).cells.toList.length + (k * sz + m - (i * sz + j) - (a.eval v).cells.toList.length) = k * sz + m by rw [hvl, hl]; omega]
      exact hx0⟩)
  refine ⟨_, r, ?_, k1, k2⟩
  simp [execOp, Instr.storeAt, he, Instr.sureAddr, storeVar, hy.run_size, hcs, hst]
end
end Go.Proofs.YthjldemjipnmdaaGreatDoor.Sx
namespace Go.Proofs.YthjldemjipnmdaaGreatDoor.Sx
open Go.RowKit
section
variable {P : Program} {F : Fr} {t : Tm} {h : Hp} {d : Option Tmp} {ty : TypeId} {ps : String} {af : Array Edge} {gd : Option (Nat × Bool)}
def readA (h : Hp) : AV → Option (Nat × Nat × (Nat → AL))
 | .im sz n els => some (sz, n, els)
 | .own g => match getH h g with
  | some (.row _ sz n els) => some (sz, n, els)
  | _ => none
 | _ => none
theorem read_ok {w : World} {r : Rho} (hr : HR F r h w) {x : AV} {V : Value} (hv : VR w x r (Mut F.M0 r h) V) {sz n : Nat} {els : Nat → AL} (hd : readA h x = some (sz, n, els)) :
  (n = 0 ∧ V = .slice none 0 0) ∨ ∃ b off cap, V = .slice (some ⟨b, off, none⟩) n cap ∧ n ≤ cap ∧
   ∀ i, i < n → ∃ Us : List Value, (∀ j U, Us[j]? = some U → w.cell? ⟨b, off + i * sz + j, none⟩ = some U) ∧ Us.length = sz ∧ VRL w (els i) true r0 (Mut F.M0 r h) Us := by
 cases x <;> simp only [readA, reduceCtorEq] at hd
 case im sz' n' els' =>
  simp only [Option.some.injEq, Prod.mk.injEq] at hd
  obtain ⟨rfl, rfl, rfl⟩ := hd
  unfold VR at hv
  rcases hv with hv | ⟨b, off, cap, e, hc, _, _, hel⟩
  ·exact .inl hv
  ·exact .inr ⟨b, off, cap, e, hc, hel⟩
 case own g =>
  unfold VR at hv
  obtain ⟨hV, _⟩ := hv
  cases hg : getH h g with
  | none => rw [hg] at hd; cases hd
  | some o =>
   rw [hg] at hd
   cases o <;> simp only [reduceCtorEq, Option.some.injEq, Prod.mk.injEq] at hd
   obtain ⟨rfl, rfl, rfl⟩ := hd
   obtain ⟨xs, ho, hel⟩ := hr.objs g _ _ hg hV
   rcases ho.2 with ⟨rfl, hn⟩ | ⟨b, cap, cur, T0, fz, rfl, _, h2, h3, h4, h5, h6⟩
   ·exact .inl ⟨hn, rfl⟩
   ·refine .inr ⟨b, 0, cap, rfl, h3, fun i hi => ?_⟩
    obtain ⟨Us, a1, a2, a3⟩ := hel i hi
    refine ⟨Us, fun j U hj => ?_, a2, a3⟩
    have hx := a1 j U hj
    rw [← h6, List.getElem?_take] at hx
    split at hx
    ·rw [cell_of_row w b _ cur _ fz h2]
     simpa using hx
    ·cases hx
theorem read_cells {w : World} {M : Cond} {sz n b off : Nat} {els : Nat → AL} (hel : ∀ i, i < n → ∃ Us : List Value, (∀ j U, Us[j]? = some U → w.cell? ⟨b, off + i * sz + j, none⟩ = some U) ∧ Us.length = sz ∧ VRL w (els i) true r0 M Us) :
  ∃ Ws : List (List Value), Ws.length = n ∧ (∀ W ∈ Ws, W.length = sz) ∧ (∀ i, i < n → VRL w (els i) true r0 M (Ws.getD i [])) ∧ (∀ j U, Ws.flatten[j]? = some U → w.cell? ((⟨b, off, none⟩ : Addr).add j) = some U) ∧ ∀ U ∈ Ws.flatten, U.oneCell' = true := by
 induction n with
 | zero => exact ⟨[], rfl, (fun W hW => by cases hW), (fun i hi => by omega), (fun j U hj => by simp at hj), (fun U hU => by cases hU)⟩
 | succ n ih =>
  obtain ⟨Ws, h1, h2, h3, h4, h5⟩ := ih (fun i hi => hel i (by omega))
  obtain ⟨Us, a1, a2, a3⟩ := hel n (by omega)
  refine ⟨Ws ++ [Us], by simp [h1], fun W hW => ?_, fun i hi => ?_, fun j U hj => ?_, fun U hU => ?_⟩
  ·rcases List.mem_append.1 hW with hW | hW
   ·exact h2 W hW
   ·rw [List.mem_singleton.1 hW]; exact a2
  ·rw [List.getD_eq_getElem?_getD]
   by_cases e : i < n
   ·rw [List.getElem?_append_left (by omega), ← List.getD_eq_getElem?_getD]; exact h3 i e
   ·obtain rfl : i = n := by omega
    rw [List.getElem?_append_right (by omega), h1, Nat.sub_self]; exact a3
  ·rw [List.flatten_append, List.getElem?_append] at hj
   split at hj
   ·exact h4 j U hj
   ·rename_i hlt
    rw [flat_len h2, h1] at hj hlt
    simp only [List.flatten_cons, List.flatten_nil, List.append_nil] at hj
    have := a1 _ U hj
    rw [add_addr]
    rwa [show off + n * sz + (j - n * sz) = off + j by omega] at this
  ·rw [List.flatten_append] at hU
   rcases List.mem_append.1 hU with hU | hU
   ·exact h5 U hU
   ·exact a3.one U (by simpa using hU)
def catF (n : Nat) (e1 e2 : Nat → AL) : Nat → AL := fun i => if i < n then e1 i else e2 (i - n)
theorem append_where {w : World} (t ty e : TypeId) (i : TypeInfo) (z : Value) (ht : P.underlying t = some (.slice e)) (hi : P.info? e = some i) (hz : i.zero = some z) (v : Value) (n : Nat) (xs : List Value) (hown : w.ownsRow 0 e i.size v n xs)
  (a : Addr) (m c : Nat) (news : List Value) (hl : news.length = m * i.size) (hnews : ∀ j u, news[j]? = some u → w.cell? (a.add j) = some u) (h1 : ∀ u ∈ news, u.oneCell' = true) (h63 : n + m ≤ maxLen) (hbytes : (n + m) * i.bytes ≤ 140737488355328)
  {v' : Value} {w' : World} (hrun : (Builtin.append_ #[t, t] ty #[v, .slice (some a) m c]).run P w = .ok v' w') : ∀ b, v'.ownBlock = some b → v.ownBlock = some b ∨ w.heap.size ≤ b := by
 have hsmall : n + m ≤ 9223372036854775807 := by simp only [maxLen] at h63; omega
 intro b hb
 rcases hown.2 with ⟨rfl, rfl⟩ | ⟨g, cap, cur, rfl, hbg, hg, hnc, hcm, hcs, htake⟩
 ·by_cases hm : m = 0
  ·subst hm
   have hn : news = [] := List.eq_nil_of_length_eq_zero (by simpa using hl)
   subst hn
   have : (Builtin.append_ #[t, t] ty #[.slice none 0 0, .slice (some a) 0 c]).run P w = .ok (.slice none 0 0) w := by
    simp [Builtin.append_, run_underlying ht, sizeOf, typeInfo, hi, Builtin.lenOf, Builtin.firstCells, loadCells, loadCellsFrom]
   rw [this] at hrun
   cases hrun
   cases hb
  ·have hr := run_append_nil (P := P) w t ty e i z ht hi hz a m c news hl hnews (by omega) (by omega) (by have hb := hbytes; simp only [Nat.zero_add] at hb; omega)
   rw [hr] at hrun
   cases hrun
   cases hb
   exact .inr (Nat.le_refl _)
 ·by_cases hroom : n + m ≤ cap
  ·have hfit : n * i.size + news.length ≤ cur.size := by rw [hl, hcs, ← Nat.add_mul]; exact Nat.mul_le_mul_right _ hroom
   have hr := run_append_room (P := P) w t ty e i ht hi g n cap cur hg a m c news hl hnews h1 hroom hfit
   rw [hr] at hrun
   cases hrun
   cases hb
   exact .inl rfl
  ·have holds : ∀ j u, xs[j]? = some u → w.cell? ((⟨g, 0, none⟩ : Addr).add j) = some u := hown.cells (g := g) rfl
   have hr := run_append_grow (P := P) w t ty e i z ht hi hz ⟨g, 0, none⟩ n cap xs hown.1 holds a m c news hl hnews (by omega) (by omega) (growslice_fits (by omega) hbytes)
   rw [hr] at hrun
   cases hrun
   cases hb
   exact .inr (Nat.le_refl _)
theorem append_core {w : World} {r : Rho} (_hr : HR F r h w) (T T' e : Nat) (y z : Ty) (hy : TyOk P T y) (hk : y.kind = .slice e) (hz : TyOk P e z) (hsz : 0 < z.size) {V : Value} {n : Nat} {xs : List Value} (hown : w.ownsRow 0 e z.size V n xs)
  {V2 : Value} {m : Nat} {els2 : Nat → AL} {M : Cond} (h2 : (m = 0 ∧ V2 = .slice none 0 0) ∨ ∃ b off cap, V2 = .slice (some ⟨b, off, none⟩) m cap ∧ m ≤ cap ∧ ∀ i, i < m → ∃ Us : List Value, (∀ j U, Us[j]? = some U → w.cell? ⟨b, off + i * z.size + j, none⟩ = some U) ∧ Us.length = z.size ∧ VRL w (els2 i) true r0 M Us)
  (hmax : n + m ≤ maxLen) (hby : (n + m) * z.bytes ≤ 140737488355328) :
  ∃ V' w' news, (Builtin.append_ #[T, T] T' #[V, V2]).run P w = .ok V' w' ∧ w'.ownsRow 0 e z.size V' (n + m) (xs ++ news) ∧ w.grownBy w' V.ownBlock ∧ news.length = m * z.size ∧ (∀ b, V'.ownBlock = some b → V.ownBlock = some b ∨ w.heap.size ≤ b) ∧ (∀ i, i < m → ∃ Us : List Value, (∀ j U, Us[j]? = some U → news[i * z.size + j]? = some U) ∧ Us.length = z.size ∧ VRL w (els2 i) true r0 M Us) := by
 obtain ⟨i, zv, i1, i2, i3, i4, i5, i6, i7, i8⟩ := hz.info
 have hzs : zv.cells.size = z.size := by rw [← Array.length_toList, i5]; exact i8
 rcases h2 with ⟨rfl, rfl⟩ | ⟨b, off, cap, rfl, hmc, hel⟩
 ·exact ⟨V, w, [], run_append_owned_none w 0 T T' e i z.size (hy.slice hk) i1 V n xs hown, by simpa using hown, ⟨rfl, rfl, rfl, Nat.le_refl _, fun _ _ _ => rfl⟩, by simp, (fun b hb => .inl hb), fun i hi => by omega⟩
 ·obtain ⟨Ws, k1, k2, k3, k4, k5⟩ := read_cells hel
  obtain ⟨V', w', a1, a2, a3, _⟩ := run_append_own (P := P) w 0 T T' e i zv z.size z.bytes (hy.slice hk) i1 i4 i2 i3 hzs hsz V n xs hown ⟨b, off, none⟩ m cap Ws.flatten (by rw [flat_len k2, k1]) k4 k5 hmax hby (Nat.zero_le _)
  refine ⟨V', w', Ws.flatten, a1, a2, a3, by rw [flat_len k2, k1], append_where T T' e i zv (hy.slice hk) i1 i4 V n xs (by rw [i2]; exact hown) ⟨b, off, none⟩ m cap Ws.flatten (by rw [flat_len k2, k1, i2]) k4 k5 hmax (by rw [i3]; exact hby) a1, fun i hi => ⟨Ws.getD i [], fun j U hj => flat_get k2 i j U (by omega) hj, ?_, k3 i hi⟩⟩
  have hi' : i < Ws.length := by omega
  rw [List.getD_eq_getElem?_getD, List.getElem?_eq_getElem hi']
  exact k2 _ (List.getElem_mem hi')
theorem own_slice {w : World} {B e size : Nat} {v : Value} {n : Nat} {xs : List Value} (ho : w.ownsRow B e size v n xs) : ∃ a n c, v = .slice a n c := by
 rcases ho.2 with ⟨rfl, _⟩ | ⟨b, cap, cur, rfl, _⟩
 ·exact ⟨_, _, _, rfl⟩
 ·exact ⟨_, _, _, rfl⟩
theorem blk_own {w : World} {B e size : Nat} {v : Value} {n : Nat} {xs : List Value} (ho : w.ownsRow B e size v n xs) : blk v = v.ownBlock := by
 rcases ho.2 with ⟨rfl, _⟩ | ⟨b, cap, cur, rfl, _⟩ <;> rfl
theorem run_append_op {w w' : World} {a : Act} {dd : Option Tmp} {T : Nat} {x v : Operand} {V' : Value} (h : (Builtin.append_ #[T, T] ty #[a.eval x, a.eval v]).run P w = .ok V' w') : (execOp a.eval ⟨dd, .call { callee := .builtin .append, args := #[x, v], argTypes := #[T, T] }, ty, ps, af, gd⟩).run P w = .ok (.value V') w' := by
 simp [execOp, resolve, invoke, builtin, h]
theorem ok_appendOwn (s T : Nat) (x v : Operand) (g e sz n m : Nat) (els els2 : Nat → AL) (y z : Ty) (hx : ev t x = .own g) (hg : getH h g = some (.row e sz n els)) (hv : readA h (ev t v) = some (sz, m, els2)) (hy : TyOk P T y) (hk : y.kind = .slice e) (hz : TyOk P e z) (hsz : z.size = sz) (h0 : 0 < sz) (hs : getH h s = none) (hsmall : n + m ≤ 4398046511104) (hby : (n + m) * z.bytes ≤ 140737488355328) (hmk : e < mkT) :
  OpWp P F ⟨some s, .call { callee := .builtin .append, args := #[x, v], argTypes := #[T, T] }, ty, ps, af, gd⟩ t h (.own s) ((s, .row e sz (n + m) (catF n els els2)) :: (g, .dead) :: h) :=
 OpWp.value fun r a w hr ht => by
  subst hsz
  have hx' := VR_ev ht x
  rw [hx] at hx'
  unfold VR at hx'
  obtain ⟨hV, _⟩ := hx'
  obtain ⟨xs, ho0, hel⟩ := hr.objs g _ _ hg hV
  have ho := ho0.own hmk
  obtain ⟨V', w', news, k1, k2, k3, k4, k5, k6⟩ := append_core (P := P) hr T ty e y z hy hk hz h0 ho (read_ok hr (VR_ev ht v) hv) (by unfold maxLen; omega) hby
  have hb : w.grownBy w' (blk (a.eval x)) := by rw [blk_own ho]; exact k3
  obtain ⟨g1, g2⟩ := hr.grow hg rfl hV hs hb (fun b hb' => by rw [blk_own k2] at hb'; rw [blk_own ho]; exact k5 b hb') (o' := .row e z.size (n + m) (catF n els els2)) (fun E => ⟨xs ++ news, rowOk.of k2, fun i hi => by
   unfold catF
   by_cases hin : i < n
   ·simp only [if_pos hin]
    obtain ⟨Us, a1, a2, a3⟩ := hel i hin
    refine ⟨Us, fun j U hj => ?_, a2, E.vrl0 a3⟩
    have hx0 := a1 j U hj
    rw [List.getElem?_append_left (List.getElem?_eq_some_iff.1 hx0).1]
    exact hx0
   ·simp only [if_neg hin]
    obtain ⟨Us, a1, a2, a3⟩ := k6 (i - n) (by omega)
    refine ⟨Us, fun j U hj => ?_, a2, E.vrl0 a3⟩
    have hx0 := a1 j U hj
    have e1 : i * z.size + j = n * z.size + ((i - n) * z.size + j) := by
     have : i = n + (i - n) := by omega
     rw [← Nat.add_assoc, ← Nat.add_mul, ← this]
    rw [List.getElem?_append_right (by rw [ho.1, e1]; omega), ho.1, e1, Nat.add_sub_cancel_left]
    exact hx0⟩)
  refine ⟨V', w', _, run_append_op k1, g1, g2, ?_⟩
  unfold VR
  exact ⟨by unfold updR; rw [if_pos rfl], .inl (own_slice k2)⟩
theorem ok_appendNil (s T : Nat) (x v : Operand) (e sz m : Nat) (els2 : Nat → AL) (y z : Ty) (hx : ev t x = .val (.slice none 0 0)) (hv : readA h (ev t v) = some (sz, m, els2)) (hy : TyOk P T y) (hk : y.kind = .slice e) (hz : TyOk P e z) (hsz : z.size = sz) (h0 : 0 < sz) (hs : getH h s = none) (hsmall : m ≤ 4398046511104) (hby : m * z.bytes ≤ 140737488355328) :
  OpWp P F ⟨some s, .call { callee := .builtin .append, args := #[x, v], argTypes := #[T, T] }, ty, ps, af, gd⟩ t h (.own s) ((s, .row e sz m els2) :: h) :=
 OpWp.value fun r a w hr ht => by
  subst hsz
  have hx' := VR_val ht hx
  obtain ⟨V', w', news, k1, k2, k3, k4, k5, k6⟩ := append_core (P := P) hr T ty e y z hy hk hz h0 (World.ownsRow_nil w 0 e z.size) (read_ok hr (VR_ev ht v) hv) (by unfold maxLen; omega) (by rw [Nat.zero_add]; exact hby)
  rw [Nat.zero_add, List.nil_append] at k2
  obtain ⟨r', g1, g2, g3⟩ := new_row hr (w' := w') ⟨k3.os, k3.tape, k3.output, k3.size, fun k hk => k3.block k hk (by simp [Value.ownBlock])⟩ hs (els := els2) (V := V') (fun b hb => by
   rw [blk_own k2] at hb
   rcases k5 b hb with h | h
   ·cases h
   ·exact h) (own_slice k2) k2 k6
  exact ⟨V', w', r', run_append_op (by rw [hx']; exact k1), g1, g2, g3⟩
end
end Go.Proofs.YthjldemjipnmdaaGreatDoor.Sx
namespace Go.Proofs.YthjldemjipnmdaaGreatDoor.Sx
open Go.RowKit
section
variable {P : Program} {F : Fr} {t : Tm} {h : Hp} {d : Option Tmp} {ty : TypeId} {ps : String} {af : Array Edge} {gd : Option (Nat × Bool)}
theorem ok_lenRow (T : Nat) (x : Operand) (sz n : Nat) (els : Nat → AL) (y : Ty) (e : Nat) (hx : readA h (ev t x) = some (sz, n, els)) (hy : TyOk P T y) (hk : y.kind = .slice e) :
  OpWp P F ⟨d, .call { callee := .builtin .len, args := #[x], argTypes := #[T] }, ty, ps, af, gd⟩ t h (.val (.int .i64 n)) h :=
 OpWp.pure fun r a w hr ht => by
  refine ⟨.int .i64 n, ?_, vr_val⟩
  rcases read_ok hr (VR_ev ht x) hx with ⟨rfl, he⟩ | ⟨b, off, cap, he, _⟩
  ·simp [execOp, resolve, invoke, builtin, Builtin.len_, run_underlying (hy.slice hk), he, goInt]
  ·simp [execOp, resolve, invoke, builtin, Builtin.len_, run_underlying (hy.slice hk), he, goInt]
theorem ok_lenNil (T : Nat) (x : Operand) (y : Ty) (e : Nat) (hx : ev t x = .val (.slice none 0 0)) (hy : TyOk P T y) (hk : y.kind = .slice e) :
  OpWp P F ⟨d, .call { callee := .builtin .len, args := #[x], argTypes := #[T] }, ty, ps, af, gd⟩ t h (.val (.int .i64 0)) h :=
 OpWp.pure fun r a w hr ht => by
  refine ⟨.int .i64 0, ?_, vr_val⟩
  simp [execOp, resolve, invoke, builtin, Builtin.len_, run_underlying (hy.slice hk), VR_val ht hx, goInt]
theorem ok_lenStr (T : Nat) (x : Operand) (s : ByteArray) (y : Ty) (hx : ev t x = .val (.string s)) (hy : TyOk P T y) (hk : y.kind = .string) :
  OpWp P F ⟨d, .call { callee := .builtin .len, args := #[x], argTypes := #[T] }, ty, ps, af, gd⟩ t h (.val (.int .i64 s.size)) h :=
 OpWp.pure fun r a w hr ht => by
  refine ⟨.int .i64 s.size, ?_, vr_val⟩
  simp [execOp, resolve, invoke, builtin, Builtin.len_, run_underlying (hy.string hk), VR_val ht hx, goInt]
theorem ok_min (T T' : Nat) (x v : Operand) (k k' : IntKind) (a b : Int) (hx : ev t x = .val (.int k a)) (hv : ev t v = .val (.int k' b)) :
  OpWp P F ⟨d, .call { callee := .builtin .min, args := #[x, v], argTypes := #[T, T'] }, ty, ps, af, gd⟩ t h (.val (.int k (min a b))) h :=
 OpWp.pure fun r a' w hr ht => by
  refine ⟨.int k (min a b), ?_, vr_val⟩
  have e : (if b < a then b else a) = min a b := by split <;> omega
  simp [execOp, resolve, invoke, builtin, Builtin.min_, Builtin.min2, VR_val ht hx, VR_val ht hv, e]
theorem ok_min3 (T T' T2 : Nat) (x v u : Operand) (k k' k2 : IntKind) (a b c : Int) (hx : ev t x = .val (.int k a)) (hv : ev t v = .val (.int k' b)) (hu : ev t u = .val (.int k2 c)) :
  OpWp P F ⟨d, .call { callee := .builtin .min, args := #[x, v, u], argTypes := #[T, T', T2] }, ty, ps, af, gd⟩ t h (.val (.int k (min (min a b) c))) h :=
 OpWp.pure fun r a' w hr ht => by
  refine ⟨.int k (min (min a b) c), ?_, vr_val⟩
  have e : (if b < a then b else a) = min a b := by split <;> omega
  have e2 : (if c < min a b then c else min a b) = min (min a b) c := by split <;> omega
  simp [execOp, resolve, invoke, builtin, Builtin.min_, Builtin.min2, VR_val ht hx, VR_val ht hv, VR_val ht hu, e, e2]
theorem ok_max (T T' : Nat) (x v : Operand) (k k' : IntKind) (a b : Int) (hx : ev t x = .val (.int k a)) (hv : ev t v = .val (.int k' b)) :
  OpWp P F ⟨d, .call { callee := .builtin .max, args := #[x, v], argTypes := #[T, T'] }, ty, ps, af, gd⟩ t h (.val (.int k (max a b))) h :=
 OpWp.pure fun r a' w hr ht => by
  refine ⟨.int k (max a b), ?_, vr_val⟩
  have e : (if a < b then b else a) = max a b := by split <;> omega
  simp [execOp, resolve, invoke, builtin, Builtin.max_, Builtin.max2, VR_val ht hx, VR_val ht hv, e]
def bndA (t : Tm) (o : Option Operand) (dflt : Int) : Option Int := match o with
 | none => some dflt
 | some x => match ev t x with
  | .val (.int _ n) => some n
  | _ => none
theorem bnd_run {w : World} {r : Rho} {M : Cond} {a : Act} (ht : TR w r M t a) {x : Operand} {n : Int} (hb : bndA t (some x) 0 = some n) (y : Nat) (c : BoundsCode) (h0 : 0 ≤ n) (h1 : n ≤ y) : (Instr.sliceBound (a.eval x) y c).run P w = .ok n.toNat w := by
 have hb : (match ev t x with | .val (.int _ n) => some n | _ => none) = some n := hb
 cases hx : ev t x with
 | val v =>
  rw [hx] at hb
  cases v <;> simp only [reduceCtorEq, Option.some.injEq] at hb
  subst hb
  simp [Instr.sliceBound, VR_val ht hx, asIntOf, h0, h1]
 | _ => rw [hx] at hb; cases hb
theorem bnd_some {x : Operand} {m m' : Int} : bndA t (some x) m = bndA t (some x) m' := rfl
theorem ok_sliceStr (T : Nat) (x : Operand) (lo hi : Option Operand) (s : ByteArray) (l u : Int) (y : Ty) (hx : ev t x = .val (.string s)) (hl : bndA t lo 0 = some l) (hu : bndA t hi s.size = some u) (hy : TyOk P T y) (hk : y.kind = .string) (hb : 0 ≤ l ∧ l ≤ u ∧ u ≤ s.size) :
  OpWp P F ⟨d, .slice T x lo hi none, ty, ps, af, gd⟩ t h (.val (.string (s.extract l.toNat u.toNat))) h :=
 OpWp.pure fun r a w hr ht => by
  refine ⟨_, ?_, vr_val⟩
  have e : ((u.toNat : Nat) : Int) = u := by omega
  cases lo with
  | none =>
   obtain rfl : 0 = l := Option.some.inj hl
   cases hi with
   | none =>
    obtain rfl : (s.size : Int) = u := Option.some.inj hu
    simp [execOp, Instr.sliceAt, Instr.slice, run_underlying (hy.string hk), VR_val ht hx, Instr.sliceBounds]
   | some q =>
    have := bnd_run (P := P) ht (x := q) (bnd_some.trans hu) s.size (if false then .sliceAcap else .sliceAlen) (by omega) hb.2.2
    simp at this
    simp [execOp, Instr.sliceAt, Instr.slice, run_underlying (hy.string hk), VR_val ht hx, Instr.sliceBounds, this]
  | some p =>
   cases hi with
   | none =>
    obtain rfl : (s.size : Int) = u := Option.some.inj hu
    have := bnd_run (P := P) ht (x := p) hl s.size .sliceB hb.1 hb.2.1
    simp [execOp, Instr.sliceAt, Instr.slice, run_underlying (hy.string hk), VR_val ht hx, Instr.sliceBounds, this]
   | some q =>
    have h1 := bnd_run (P := P) ht (x := q) (bnd_some.trans hu) s.size .sliceAlen (by omega) hb.2.2
    have h2 := bnd_run (P := P) ht (x := p) hl u.toNat .sliceB hb.1 (by omega)
    simp [execOp, Instr.sliceAt, Instr.slice, run_underlying (hy.string hk), VR_val ht hx, Instr.sliceBounds, h1, h2]
def shiftF (els : Nat → AL) (l : Nat) : Nat → AL := match l with
 | 0 => els
 | l => fun i => els (i + l)
theorem shiftF_eq (els : Nat → AL) (l i : Nat) : shiftF els l i = els (i + l) := by
 cases l <;> rfl
theorem ok_sliceIm (T : Nat) (x : Operand) (lo hi mx : Option Operand) (sz n : Nat) (els : Nat → AL) (l u m : Int) (y z : Ty) (e : Nat) (hx : ev t x = .im sz n els) (hl : bndA t lo 0 = some l) (hu : bndA t hi n = some u) (hm : bndA t mx n = some m) (hmh : mx.isSome = true → hi.isSome = true) (hy : TyOk P T y) (hk : y.kind = .slice e) (hz : TyOk P e z) (hsz : z.size = sz) (hb : 0 ≤ l ∧ l ≤ u ∧ u ≤ m ∧ m ≤ n) :
  OpWp P F ⟨d, .slice T x lo hi mx, ty, ps, af, gd⟩ t h (.im sz (u - l).toNat (shiftF els l.toNat)) h :=
 OpWp.pure fun r a w hr ht => by
  have hv := VR_ev ht x
  rw [hx] at hv
  unfold VR at hv
  have bounds : ∀ cap : Nat, n ≤ cap → ∃ M : Nat, (Instr.sliceBounds true n cap (lo.map a.eval) (hi.map a.eval) (mx.map a.eval)).run P w = .ok (l.toNat, u.toNat, M) w ∧ u.toNat ≤ M ∧ M ≤ cap := by
   intro cap hc
   have eu : ((u.toNat : Nat) : Int) = u := by omega
   cases mx with
   | none =>
    cases hi with
    | none =>
     obtain rfl : (n : Int) = u := Option.some.inj hu
     refine ⟨cap, ?_, by simpa using hc, Nat.le_refl _⟩
     cases lo with
     | none => obtain rfl : 0 = l := Option.some.inj hl; simp [Instr.sliceBounds]
     | some p => have h2 := bnd_run (P := P) ht (x := p) hl n .sliceB hb.1 (by omega); simp [Instr.sliceBounds, h2]
    | some q =>
     have h1 := bnd_run (P := P) ht (x := q) (bnd_some.trans hu) cap .sliceAcap (by omega) (by omega)
     refine ⟨cap, ?_, by omega, Nat.le_refl _⟩
     cases lo with
     | none => obtain rfl : 0 = l := Option.some.inj hl; simp [Instr.sliceBounds, h1]
     | some p => have h2 := bnd_run (P := P) ht (x := p) hl u.toNat .sliceB hb.1 (by omega); simp [Instr.sliceBounds, h1, h2]
   | some q2 =>
    cases hi with
    | none => simp at hmh
    | some q =>
     have h0 := bnd_run (P := P) ht (x := q2) (bnd_some.trans hm) cap .slice3Acap (by omega) (by omega)
     have h1 := bnd_run (P := P) ht (x := q) (bnd_some.trans hu) m.toNat .slice3B (by omega) (by omega)
     refine ⟨m.toNat, ?_, by omega, by omega⟩
     cases lo with
     | none => obtain rfl : 0 = l := Option.some.inj hl; simp [Instr.sliceBounds, h0, h1]
     | some p => have h2 := bnd_run (P := P) ht (x := p) hl u.toNat .slice3C hb.1 (by omega); simp [Instr.sliceBounds, h0, h1, h2]
  have hub : ((u - l).toNat) = u.toNat - l.toNat := by omega
  rcases hv with ⟨hn, he⟩ | ⟨b, off, cap, he, hc, hbs, hM, hel⟩
  ·obtain ⟨M, h1, h2, h3⟩ := bounds 0 (by omega)
   refine ⟨.slice none 0 0, ?_, ?_⟩
   ·subst hn
    have e1 : u.toNat - l.toNat = 0 := by omega
    have e2 : M - l.toNat = 0 := by omega
    simp [execOp, Instr.sliceAt, Instr.slice, run_underlying (hy.slice hk), he, h1, hz.run_size, e1, e2]
   ·unfold VR
    exact .inl ⟨by omega, rfl⟩
  ·obtain ⟨M, h1, h2, h3⟩ := bounds cap hc
   by_cases hMl : M = l.toNat
   ·refine ⟨.slice (some ⟨b, off, none⟩) (u.toNat - l.toNat) (M - l.toNat), ?_, ?_⟩
    ·simp [execOp, Instr.sliceAt, Instr.slice, run_underlying (hy.slice hk), he, h1, hz.run_size, hMl]
    ·unfold VR
     rw [hub]
     exact .inr ⟨b, off, _, rfl, by omega, hbs, hM, fun i hi => by omega⟩
   ·refine ⟨.slice (some ⟨b, off + l.toNat * sz, none⟩) (u.toNat - l.toNat) (M - l.toNat), ?_, ?_⟩
    ·simp [execOp, Instr.sliceAt, Instr.slice, run_underlying (hy.slice hk), he, h1, hz.run_size, hMl, add_addr, hsz]
    ·unfold VR
     rw [hub]
     refine .inr ⟨b, _, _, rfl, by omega, hbs, hM, fun i hi => ?_⟩
     rw [shiftF_eq]
     obtain ⟨Us, a1, a2, a3⟩ := hel (i + l.toNat) (by omega)
     refine ⟨Us, fun j U hj => ?_, a2, a3⟩
     have := a1 j U hj
     rwa [show off + l.toNat * sz + i * sz + j = off + (i + l.toNat) * sz + j by rw [Nat.add_mul]; omega]
end
end Go.Proofs.YthjldemjipnmdaaGreatDoor.Sx
namespace Go.Proofs.YthjldemjipnmdaaGreatDoor.Sx
open Go.RowKit
section
variable {P : Program} {F : Fr} {t : Tm} {h : Hp} {d : Option Tmp} {ty : TypeId} {ps : String} {af : Array Edge} {gd : Option (Nat × Bool)}
theorem ok_convInt (S T : Nat) (x : Operand) (k k' : IntKind) (n : Int) (y ys : Ty) (hx : ev t x = .val (.int k' n)) (hys : TyOk P S ys) (hks : ys.kind = .int k') (hy : TyOk P T y) (hk : y.kind = .int k) :
  OpWp P F ⟨d, .convert S T x, ty, ps, af, gd⟩ t h (.val (.int k (k.wrap n))) h :=
 OpWp.pure fun r a w hr ht => by
  refine ⟨_, ?_, vr_val⟩
  simp [execOp, convert, run_underlying (hys.int hks), run_underlying (hy.int hk), VR_val ht hx, Conv.intToInt]
theorem wrap_in {k : IntKind} {n : Int} (hn : inK k n) : k.wrap n = n := by
 cases k <;> simp [IntKind.signed, IntKind.bits, IntKind.wrap] at hn ⊢ <;> omega
theorem ok_convIn (S T : Nat) (x : Operand) (k k' : IntKind) (n : Int) (y ys : Ty) (hx : ev t x = .val (.int k' n)) (hys : TyOk P S ys) (hks : ys.kind = .int k') (hy : TyOk P T y) (hk : y.kind = .int k) (hn : inK k n) :
  OpWp P F ⟨d, .convert S T x, ty, ps, af, gd⟩ t h (.val (.int k n)) h := by
 have := ok_convInt (P := P) (F := F) (h := h) (d := d) (ty := ty) (ps := ps) (af := af) (gd := gd) S T x k k' n y ys hx hys hks hy hk
 rwa [wrap_in hn] at this
def byteEls (s : ByteArray) : Nat → AL := fun i => .cons (.val (.int .u8 (byteAt s i))) .nil
theorem ok_strBytes (S T : Nat) (x : Operand) (s : ByteArray) (y ys ye : Ty) (e : Nat) (hx : ev t x = .val (.string s)) (hys : TyOk P S ys) (hks : ys.kind = .string) (hy : TyOk P T y) (hk : y.kind = .slice e) (he : TyOk P e ye) (hke : ye.kind = .int .u8) :
  OpWp P F ⟨d, .convert S T x, ty, ps, af, gd⟩ t h (.im 1 s.size (byteEls s)) h :=
 OpWp.value fun r a w hr ht => by
  have hrun := run_bytes_of_string (P := P) w S T e s (hys.string hks) (hy.slice hk) (he.int hke)
  have hb : Below w.heap.size w (w.drew.alloc (.cells (bytesRow s (grownCap w s.size 0 e)) e ((bytesRow s (grownCap w s.size 0 e)).size, (bytesRow s (grownCap w s.size 0 e)).size + 1))) := (Below.refl _ _).drew.alloc (Nat.le_refl _) _
  obtain ⟨h1, h2⟩ := hr.same hb
  refine ⟨.slice (some ⟨w.heap.size, 0, none⟩) s.size (grownCap w s.size 0 e), _, r, ?_, h1, h2, ?_⟩
  ·simp only [execOp, VR_val ht hx, Sem.run_bind, hrun, Result.andThen, Sem.run_pure]
  ·unfold VR
   refine .inr ⟨w.heap.size, 0, _, rfl, grownCap_ge w _ _ _, by simp, fun hm => Nat.lt_irrefl _ (hr.lt hm), fun i hi => ?_⟩
   refine ⟨[.int .u8 (byteAt s i)], fun j U hj => ?_, rfl, by unfold byteEls VRL; exact ⟨fun _ => rfl, vr_val, by unfold VRL; trivial⟩⟩
   cases j with
   | succ j => simp at hj
   | zero =>
    simp only [List.getElem?_cons_zero, Option.some.injEq] at hj
    subst hj
    have hnew := heap_alloc_new w.drew (.cells (bytesRow s (grownCap w s.size 0 e)) e ((bytesRow s (grownCap w s.size 0 e)).size, (bytesRow s (grownCap w s.size 0 e)).size + 1))
    rw [cell_of_row _ w.heap.size _ _ e _ hnew]
    have h1 : i < s.data.toList.length := by simpa using hi
    simp only [Nat.zero_add, Nat.mul_one, Nat.add_zero, bytesRow]
    rw [Array.getElem?_append_left (by simpa using hi)]
    have hd : s.data[i]? = some s.data[i] := by rw [Array.getElem?_eq_getElem]
    simp [byteAt, hd]
theorem VR_numsOf {w : World} {M : Cond} {b off n : Nat} {els : Nat → AL} {f : Nat → Int} (hf : ∀ i, i < n → els i = .cons (.val (.int .u8 (f i))) .nil) (hel : ∀ i, i < n → ∃ Us : List Value, (∀ j U, Us[j]? = some U → w.cell? ⟨b, off + i * 1 + j, none⟩ = some U) ∧ Us.length = 1 ∧ VRL w (els i) true r0 M Us) :
  ∀ i, i < n → w.cell? ⟨b, off + i, none⟩ = some (.int .u8 (f i)) := fun i hi => by
 obtain ⟨Us, h1, h2, h3⟩ := hel i hi
 rw [hf i hi] at h3
 match Us, h2 with
 | [U], _ =>
  unfold VRL at h3
  have := h3.2.1
  unfold VR at this
  have := h1 0 U rfl
  simp only [Nat.mul_one, Nat.add_zero] at this
  rw [this]; subst_vars; rfl
def strF (n : Nat) (f : Nat → Int) : ByteArray := strOfNums ((List.range n).map f)
theorem ok_bytesStr (S T : Nat) (x : Operand) (n : Nat) (els : Nat → AL) (f : Nat → Int) (y ys ye : Ty) (e : Nat) (hx : readA h (ev t x) = some (1, n, els)) (hf : ∀ i, i < n → els i = .cons (.val (.int .u8 (f i))) .nil) (hys : TyOk P S ys) (hks : ys.kind = .slice e) (hy : TyOk P T y) (hk : y.kind = .string) (he : TyOk P e ye) (hke : ye.kind = .int .u8) :
  OpWp P F ⟨d, .convert S T x, ty, ps, af, gd⟩ t h (.val (.string (strF n f))) h :=
 OpWp.pure fun r a w hr ht => by
  refine ⟨_, ?_, vr_val⟩
  rcases read_ok hr (VR_ev ht x) hx with ⟨rfl, hv⟩ | ⟨b, off, cap, hv, hc, hel⟩
  ·have := run_convert_bytes_nil (P := P) w S e (hys.slice hks) (he.int hke) 0 0 T (hy.string hk)
   simp only [execOp, hv, Sem.run_bind, this, Result.andThen, Sem.run_pure]
   rfl
  ·have := run_convert_bytes_arg (P := P) w S e (hys.slice hks) (he.int hke) b off n cap ((List.range n).map f) (by simp) (fun i hi => by
    rw [VR_numsOf hf hel i hi]
    simp [List.getD, hi]) T (hy.string hk)
   simp only [execOp, hv, Sem.run_bind, this, Result.andThen, Sem.run_pure]
   rfl
def opsL (t : Tm) : List Operand → AL
 | [] => .nil
 | x :: l => .cons (ev t x) (opsL t l)
theorem opsL_vr {w : World} {r : Rho} {M : Cond} {a : Act} (ht : TR w r M t a) : ∀ l : List Operand, VRL w (opsL t l) false r M (l.map a.eval)
 | [] => by unfold opsL; simp only [List.map_nil]; unfold VRL; trivial
 | x :: l => by unfold opsL; simp only [List.map_cons]; unfold VRL; exact ⟨(fun h => by cases h), VR_ev ht x, opsL_vr ht l⟩
theorem ok_makeFunc (f : Nat) (caps : Array Operand) : OpWp P F ⟨d, .makeFunc (.func f) #[] caps, ty, ps, af, gd⟩ t h (.fn f (opsL t caps.toList)) h :=
 OpWp.pure fun r a w hr ht => by
  refine ⟨.func (.func f) #[] (caps.map a.eval), ?_, ?_⟩
  ·simp [execOp, Instr.makeFunc]
  ·unfold VR
   exact ⟨_, rfl, by simpa using opsL_vr ht caps.toList⟩
theorem made_get (z : Array Value) (n i j : Nat) (hn : i < n) (hj : j < z.size) : (madeCells z (n * z.size)).toList[i * z.size + j]? = z[j]? := by
 have h1 : i * z.size + j < n * z.size := by
  have : (i + 1) * z.size ≤ n * z.size := Nat.mul_le_mul_right _ hn
  rw [Nat.add_mul] at this; omega
 have h2 : (i * z.size + j) % z.size = j := by rw [Nat.mul_comm, Nat.mul_add_mod]; exact Nat.mod_eq_of_lt hj
 simp [madeCells, h1, h2, hj]
theorem ok_makeSlice (s T : Nat) (x v : Operand) (k k' : IntKind) (n : Int) (y z : Ty) (e : Nat) (hx : ev t x = .val (.int k n)) (hv : ev t v = .val (.int k' n)) (hy : TyOk P T y) (hk : y.kind = .slice e) (hz : TyOk P e z) (hs : getH h s = none) (hb : 0 ≤ n ∧ n ≤ 1000000 ∧ z.bytes ≤ 1000000) :
  OpWp P F ⟨some s, .makeSlice T x v, ty, ps, af, gd⟩ t h (.own s) ((s, .row e z.size n.toNat (fun _ => valsL z.zero)) :: h) :=
 OpWp.value fun r a w hr ht => by
  obtain ⟨i, zv, i1, i2, i3, i4, i5, i6, i7, i8⟩ := hz.info
  have hzs : zv.cells.size = z.size := by rw [← Array.length_toList, i5]; exact i8
  have hbn : i.bytes * n.toNat ≤ 281474976710656 := by
   rw [i3]
   exact Nat.le_trans (Nat.mul_le_mul hb.2.2 (show n.toNat ≤ 1000000 by omega)) (by decide)
  obtain ⟨w', k1, k2, k3⟩ := run_make_full (P := P) (w := w) 0 T e i zv z.size (hy.slice hk) i1 i4 i2 k k' n.toNat hbn (by unfold maxLen; omega) (Nat.zero_le _)
  rw [show ((n.toNat : Nat) : Int) = n by omega] at k1
  obtain ⟨r', g1, g2, g3⟩ := new_row hr (w' := w') ⟨k3.os, k3.tape, k3.output, k3.size, fun k hk => k3.block k hk (by simp)⟩ hs (els := fun _ => valsL z.zero) (V := .slice (some ⟨w.heap.size, 0, none⟩) n.toNat n.toNat) (fun b hb => by cases hb; exact Nat.le_refl _) ⟨_, _, _, rfl⟩ k2 (fun i hi => by
   refine ⟨z.zero, fun j U hj => ?_, i8, vals_vr _ i7⟩
   have hjl : j < zv.cells.size := by
    have := (List.getElem?_eq_some_iff.1 hj).1
    omega
   rw [← hzs, made_get zv.cells n.toNat i j hi hjl, ← Array.getElem?_toList, i5]
   exact hj)
  refine ⟨.slice (some ⟨w.heap.size, 0, none⟩) n.toNat n.toNat, w', r', ?_, g1, g2, g3⟩
  simp only [execOp, VR_val ht hx, VR_val ht hv, Sem.run_bind, k1, Result.andThen, Sem.run_pure]
theorem ok_convStr (S T : Nat) (x : Operand) (s : ByteArray) (y ys : Ty) (hx : ev t x = .val (.string s)) (hys : TyOk P S ys) (hks : ys.kind = .string) (hy : TyOk P T y) (hk : y.kind = .string) :
  OpWp P F ⟨d, .convert S T x, ty, ps, af, gd⟩ t h (.val (.string s)) h :=
 OpWp.pure fun r a w hr ht => by
  refine ⟨.string s, ?_, vr_val⟩
  simp [execOp, convert, run_underlying (hys.string hks), run_underlying (hy.string hk), VR_val ht hx]
end
end Go.Proofs.YthjldemjipnmdaaGreatDoor.Sx
namespace Go.Proofs.YthjldemjipnmdaaGreatDoor.Sx
open Go.RowKit
abbrev Out := Option (AV × Hp × Option Prop)
def fcA {α : Sort _} (x : AV) (k : AV → α) : α := match x with
 | .any => k .any
 | .val v => k (.val v)
 | .ptr g j => k (.ptr g j)
 | .own g => k (.own g)
 | .pown g sz i j => k (.pown g sz i j)
 | .im sz n els => k (.im sz n els)
 | .pim cs => k (.pim cs)
 | .agg cs => k (.agg cs)
 | .tup cs => k (.tup cs)
 | .fn f cs => k (.fn f cs)
theorem fcA_eq {α : Sort _} (x : AV) (k : AV → α) : fcA x k = k x := by cases x <;> rfl
def fcL {α : Sort _} : AL → (AL → α) → α
 | .nil, k => k .nil
 | .cons x l, k => fcA x fun x => fcL l fun l => k (.cons x l)
theorem fcL_eq {α : Sort _} : ∀ (l : AL) (k : AL → α), fcL l k = k l
 | .nil, k => rfl
 | .cons x l, k => by unfold fcL; rw [fcA_eq, fcL_eq l]
def fcZ {α : Sort _} : List Int → (List Int → α) → α
 | [], k => k []
 | x :: l, k => fcZ l fun l => k (x :: l)
theorem fcZ_eq {α : Sort _} : ∀ (l : List Int) (k : List Int → α), fcZ l k = k l
 | [], k => rfl
 | x :: l, k => by unfold fcZ; rw [fcZ_eq]
def fcK {α : Sort _} (x : IntKind) (k : IntKind → α) : α := match x with
 | .i8 => k .i8
 | .i16 => k .i16
 | .i32 => k .i32
 | .i64 => k .i64
 | .u8 => k .u8
 | .u16 => k .u16
 | .u32 => k .u32
 | .u64 => k .u64
theorem fcK_eq {α : Sort _} (x : IntKind) (k : IntKind → α) : fcK x k = k x := by cases x <;> rfl
def fcLs {α : Sort _} : List AL → (List AL → α) → α
 | [], k => k []
 | l :: ls, k => fcL l fun l => fcLs ls fun ls => k (l :: ls)
theorem fcLs_eq {α : Sort _} : ∀ (l : List AL) (k : List AL → α), fcLs l k = k l
 | [], k => rfl
 | l :: ls, k => by unfold fcLs; rw [fcL_eq, fcLs_eq ls]
def nthO {α : Type} : List α → Nat → Option α
 | [], _ => none
 | x :: _, 0 => some x
 | _ :: l, n + 1 => nthO l n
theorem nthO_eq {α : Type} : ∀ (l : List α) (n : Nat), nthO l n = l[n]?
 | [], _ => by simp [nthO]
 | _ :: _, 0 => by simp [nthO]
 | _ :: l, n + 1 => by simp [nthO, nthO_eq l n]
def axPart (z : Ty) (cs : AL) (off : Nat) (h : Hp) (s : Option Prop) : Out := match z.isAgg with
 | true => fcL (takeL (dropL cs off) z.size) fun l => some (.agg l, h, s)
 | false => fcA (getL cs off) fun v => some (v, h, s)
theorem axPart_eq (z : Ty) (cs : AL) (off : Nat) (h : Hp) (s : Option Prop) : axPart z cs off h s = some (partA z cs off, h, s) := by
 unfold axPart partA
 cases z.isAgg <;> simp only [fcL_eq, fcA_eq]
def axField (Tb : Tab) (T : Nat) (x : Operand) (i : Nat) (t : Tm) (h : Hp) : Out := match ev t x with
 | .agg cs => match lookT Tb T with
  | some y => match y.kind with
   | .struct fl => match nthO fl i with
    | some (off, ft) => match lookT Tb ft with
     | some z => match Nat.ble (off + z.size) cs.len, Nat.blt 0 z.size with
      | true, true => axPart z cs off h none
      | _, _ => none
     | none => none
    | none => none
   | _ => none
  | none => none
 | _ => none
def axAddr (x : AV) (n : Nat) (h : Hp) : Out := match x with
 | .ptr g j => some (.ptr g (j + n), h, none)
 | .pown g sz i j => some (.pown g sz i (j + n), h, none)
 | .pim cs => fcL (dropL cs n) fun l => some (.pim l, h, none)
 | _ => none
def axFieldAddr (Tb : Tab) (T : Nat) (x : Operand) (i : Nat) (t : Tm) (h : Hp) : Out := match lookT Tb T with
 | some y => match y.kind with
  | .struct fl => match nthO fl i with
   | some (off, ft) => match lookT Tb ft with
    | some z => match Nat.blt 0 z.size with
     | true => axAddr (ev t x) off h
     | _ => none
    | none => none
   | none => none
  | _ => none
 | none => none
def axIdxAddr (Tb : Tab) (T : Nat) (x ix : Operand) (t : Tm) (h : Hp) : Out := match lookT Tb T with
 | some y => match ev t ix with
  | .val (.int _ i) => match y.kind with
   | .slice e => match lookT Tb e with
    | some z => match ev t x with
     | .im sz n els => match Nat.beq z.size sz with
      | true => fcL (els i.toNat) fun l => some (.pim l, h, some (0 ≤ i ∧ i < n))
      | false => none
     | .own g => match getH h g with
      | some (.row _ sz n _) => match Nat.beq z.size sz with
       | true => some (.pown g sz i.toNat 0, h, some (0 ≤ i ∧ i < n))
       | false => none
      | _ => none
     | _ => none
    | none => none
   | .array n e => match lookT Tb e with
    | some z => match ev t x with
     | .ptr g j => some (.ptr g (j + i.toNat * z.size), h, some (0 ≤ i ∧ i < n))
     | _ => none
    | none => none
   | _ => none
  | _ => none
 | none => none
def axIdx (Tb : Tab) (T : Nat) (x ix : Operand) (t : Tm) (h : Hp) : Out := match lookT Tb T with
 | some y => match ev t ix with
  | .val (.int _ i) => match y.kind with
   | .string => match ev t x with
    | .val (.string s) => some (.val (.int .u8 (byteAt s i)), h, some (0 ≤ i ∧ i < s.size))
    | _ => none
   | .array n e => match lookT Tb e with
    | some z => match ev t x with
     | .agg cs => match intsA cs with
      | some ns => match allK (kindA cs) cs, Nat.beq z.size 1, z.isAgg, Nat.beq ns.length n with
       | true, true, false, true => fcK (kindA cs) fun kk => fcZ ns fun ns => some (.val (.int kk (ns.getD i.toNat 0)), h, some (0 ≤ i ∧ i < n))
       | _, _, _, _ => none
      | none => none
     | _ => none
    | none => none
   | _ => none
  | _ => none
 | none => none
def axLoad (Tb : Tab) (T : Nat) (x : Operand) (t : Tm) (h : Hp) : Out := match lookT Tb T with
 | some y => match Nat.blt 0 y.size with
  | true => match ev t x with
   | .ptr g j => match getH h g with
    | some (.box _ cs) => match Nat.ble (j + y.size) cs.len with
     | true => axPart y cs j h none
     | false => none
    | _ => none
   | .pown g sz i j => match getH h g with
    | some (.row _ sz' n els) => match Nat.beq sz' sz, Nat.ble (j + y.size) (els i).len with
     | true, true => axPart y (els i) j h (some (i < n))
     | _, _ => none
    | _ => none
   | .pim cs => match Nat.ble (0 + y.size) cs.len with
    | true => axPart y cs 0 h none
    | false => none
   | _ => none
  | false => none
 | none => none
def axStore (Tb : Tab) (T : Nat) (x v : Operand) (t : Tm) (h : Hp) : Out := match lookT Tb T with
 | some y => fcA (ev t v) fun u => match fitA u, Nat.beq (cellsA u).len y.size with
  | true, true => match ev t x with
   | .ptr g j => match getH h g with
    | some (.box T' cs) => match Nat.ble (j + y.size) cs.len with
     | true => fcL (putL cs j (cellsA u)) fun l => some (.any, (g, .box T' l) :: h, none)
     | false => none
    | _ => none
   | .pown g sz i j => match getH h g with
    | some (.row T' sz' n els) => match Nat.beq sz' sz, Nat.ble (j + y.size) sz, clA u with
     | true, true, true => fcL (putL (els i) j (cellsA u)) fun l => some (.any, (g, .row T' sz n (fun k => if k = i then l else els k)) :: h, some (i < n))
     | _, _, _ => none
    | _ => none
   | _ => none
  | _, _ => none
 | none => none
section
variable {P : Program} {F : Fr} {t : Tm} {h h' : Hp} {d : Option Tmp} {ty : TypeId} {ps : String} {af : Array Edge} {gd : Option (Nat × Bool)} {Tb : Tab} {v : AV} {s : Option Prop}
theorem blt_iff {a b : Nat} (h : Nat.blt a b = true) : a < b := Nat.le_of_ble_eq_true h
theorem some3 {v v' : AV} {h h' : Hp} {s s' : Option Prop} (e : (some (v, h, s) : Out) = some (v', h', s')) : v = v' ∧ h = h' ∧ s = s' := by cases e; exact ⟨rfl, rfl, rfl⟩
theorem axField_ok (hT : TabOk P Tb) (T : Nat) (x : Operand) (i : Nat) (he : axField Tb T x i t h = some (v, h', s)) : OpWp P F ⟨d, .field T x i, ty, ps, af, gd⟩ t h v h' := by
 unfold axField at he
 split at he <;> try (cases he; done)
 split at he <;> try (cases he; done)
 split at he <;> try (cases he; done)
 split at he <;> try (cases he; done)
 split at he <;> try (cases he; done)
 split at he <;> try (cases he; done)
 rename_i cs hx _ y hy _ fl hk _ off ft hf _ z hz _ _ h1 h2
 rw [axPart_eq] at he
 obtain ⟨rfl, rfl, _⟩ := some3 he
 exact ok_field T i x cs hx y z (hT _ _ hy) fl hk off ft (by rw [← nthO_eq]; exact hf) (hT _ _ hz) (Nat.le_of_ble_eq_true h1) (blt_iff h2)
theorem axAddr_ok {x : AV} {n : Nat} (he : axAddr x n h = some (v, h', s)) : isPtr x = true ∧ v = addA x n ∧ h' = h := by
 unfold axAddr at he
 split at he <;> try (cases he; done)
 ·obtain ⟨rfl, rfl, _⟩ := some3 he; exact ⟨rfl, rfl, rfl⟩
 ·obtain ⟨rfl, rfl, _⟩ := some3 he; exact ⟨rfl, rfl, rfl⟩
 ·rw [fcL_eq] at he; obtain ⟨rfl, rfl, _⟩ := some3 he; exact ⟨rfl, rfl, rfl⟩
theorem axFieldAddr_ok (hT : TabOk P Tb) (T : Nat) (x : Operand) (i : Nat) (he : axFieldAddr Tb T x i t h = some (v, h', s)) : OpWp P F ⟨d, .fieldAddr T x i, ty, ps, af, gd⟩ t h v h' := by
 unfold axFieldAddr at he
 split at he <;> try (cases he; done)
 split at he <;> try (cases he; done)
 split at he <;> try (cases he; done)
 split at he <;> try (cases he; done)
 split at he <;> try (cases he; done)
 rename_i y hy _ fl hk _ off ft hf _ z hz _ h2
 obtain ⟨h1, rfl, rfl⟩ := axAddr_ok he
 exact ok_fieldAddr T i x h1 y z (hT _ _ hy) fl hk off ft (by rw [← nthO_eq]; exact hf) (hT _ _ hz) (blt_iff h2)
theorem axIdxAddr_ok (hT : TabOk P Tb) (T : Nat) (x ix : Operand) (he : axIdxAddr Tb T x ix t h = some (v, h', s)) (hs : ∀ p, s = some p → p) : OpWp P F ⟨d, .indexAddr T x ix, ty, ps, af, gd⟩ t h v h' := by
 unfold axIdxAddr at he
 split at he <;> try (cases he; done)
 split at he <;> try (cases he; done)
 split at he <;> try (cases he; done)
 ·split at he <;> try (cases he; done)
  split at he <;> try (cases he; done)
  ·split at he <;> try (cases he; done)
   rename_i y hy _ k i hi _ e hk _ z hz _ sz n els hx _ h1
   rw [fcL_eq] at he
   obtain ⟨rfl, rfl, rfl⟩ := some3 he
   exact ok_idxIm T x ix sz n els k i y z e hx hi (hT _ _ hy) hk (hT _ _ hz) (Nat.eq_of_beq_eq_true h1) (hs _ rfl)
  ·split at he <;> try (cases he; done)
   split at he <;> try (cases he; done)
   rename_i y hy _ k i hi _ e hk _ z hz _ g hx _ T' sz n els hg _ h1
   obtain ⟨rfl, rfl, rfl⟩ := some3 he
   exact ok_idxOwn T x ix g T' sz n els k i y z e hx hg hi (hT _ _ hy) hk (hT _ _ hz) (Nat.eq_of_beq_eq_true h1) (hs _ rfl)
 ·split at he <;> try (cases he; done)
  split at he <;> try (cases he; done)
  rename_i y hy _ k i hi _ n e hk _ z hz _ g j hx
  obtain ⟨rfl, rfl, rfl⟩ := some3 he
  exact ok_idxArr T x ix g j n e k i y z hx hi (hT _ _ hy) hk (hT _ _ hz) (hs _ rfl)
theorem axIdx_ok (hT : TabOk P Tb) (T : Nat) (x ix : Operand) (he : axIdx Tb T x ix t h = some (v, h', s)) (hs : ∀ p, s = some p → p) : OpWp P F ⟨d, .index T x ix, ty, ps, af, gd⟩ t h v h' := by
 unfold axIdx at he
 simp only [fcK_eq, fcZ_eq] at he
 split at he <;> try (cases he; done)
 split at he <;> try (cases he; done)
 split at he <;> try (cases he; done)
 ·split at he <;> try (cases he; done)
  rename_i y hy _ k i hi _ hk _ q hx
  obtain ⟨rfl, rfl, rfl⟩ := some3 he
  exact ok_idxStr T x ix q k i y hx hi (hT _ _ hy) hk (hs _ rfl)
 ·split at he <;> try (cases he; done)
  split at he <;> try (cases he; done)
  split at he <;> try (cases he; done)
  split at he <;> try (cases he; done)
  rename_i y hy _ k i hi _ n e hk _ z hz _ cs hx _ ns hns _ _ _ _ h1 h2 h3 h4
  obtain ⟨rfl, rfl, rfl⟩ := some3 he
  exact ok_idxAgg T x ix cs ns n e k i y z hx hi hns h1 (hT _ _ hy) hk (hT _ _ hz) (Nat.eq_of_beq_eq_true h2) h3 (Nat.eq_of_beq_eq_true h4) (hs _ rfl)
theorem axLoad_ok (hT : TabOk P Tb) (T : Nat) (x : Operand) (he : axLoad Tb T x t h = some (v, h', s)) (hs : ∀ p, s = some p → p) : OpWp P F ⟨d, .load T x, ty, ps, af, gd⟩ t h v h' := by
 unfold axLoad at he
 split at he <;> try (cases he; done)
 split at he <;> try (cases he; done)
 split at he <;> try (cases he; done)
 ·split at he <;> try (cases he; done)
  split at he <;> try (cases he; done)
  rename_i y hy _ h0 _ g j hx _ T' cs hg _ h1
  rw [axPart_eq] at he
  obtain ⟨rfl, rfl, rfl⟩ := some3 he
  exact ok_load T x cs j y (by rw [hx]; simp only [derefA, hg]) (fun g' sz i jj e => by rw [hx] at e; cases e) (hT _ _ hy) (Nat.le_of_ble_eq_true h1) (blt_iff h0)
 ·split at he <;> try (cases he; done)
  split at he <;> try (cases he; done)
  rename_i y hy _ h0 _ g sz i j hx _ T' sz' n els hg _ _ h1 h2
  rw [axPart_eq] at he
  obtain ⟨rfl, rfl, rfl⟩ := some3 he
  exact ok_load T x (els i) j y (by rw [hx]; simp only [derefA, hg]) (fun g' sz2 i2 jj e T2 sz3 n2 els2 hg2 => by
   rw [hx] at e; cases e; rw [hg] at hg2; cases hg2
   exact ⟨Nat.eq_of_beq_eq_true h1, hs _ rfl⟩) (hT _ _ hy) (Nat.le_of_ble_eq_true h2) (blt_iff h0)
 ·split at he <;> try (cases he; done)
  rename_i y hy _ h0 _ cs hx _ h1
  rw [axPart_eq] at he
  obtain ⟨rfl, rfl, rfl⟩ := some3 he
  exact ok_load T x cs 0 y (by rw [hx]; rfl) (fun g' sz i jj e => by rw [hx] at e; cases e) (hT _ _ hy) (Nat.le_of_ble_eq_true h1) (blt_iff h0)
theorem axStore_ok (hT : TabOk P Tb) (T : Nat) (x u : Operand) (he : axStore Tb T x u t h = some (v, h', s)) (hs : ∀ p, s = some p → p) : OpWp P F ⟨none, .store T x u, ty, ps, af, gd⟩ t h v h' := by
 unfold axStore at he
 split at he <;> try (cases he; done)
 rw [fcA_eq] at he
 split at he <;> try (cases he; done)
 split at he <;> try (cases he; done)
 ·split at he <;> try (cases he; done)
  split at he <;> try (cases he; done)
  rename_i y hy _ _ hf hl _ g j hx _ T' cs hg _ h1
  rw [fcL_eq] at he
  obtain ⟨rfl, rfl, rfl⟩ := some3 he
  exact ok_storeBox T x u g j T' cs y hx hg hf (hT _ _ hy) (Nat.eq_of_beq_eq_true hl) (Nat.le_of_ble_eq_true h1)
 ·split at he <;> try (cases he; done)
  split at he <;> try (cases he; done)
  rename_i y hy _ _ hf hl _ g sz i j hx _ T' sz' n els hg _ _ _ h1 h2 h3
  rw [fcL_eq] at he
  obtain ⟨rfl, rfl, rfl⟩ := some3 he
  obtain rfl := Nat.eq_of_beq_eq_true h1
  exact ok_storeRow T x u g sz' i j T' n els y hx hg hf h3 (hT _ _ hy) (Nat.eq_of_beq_eq_true hl) (Nat.le_of_ble_eq_true h2) (hs _ rfl)
end
end Go.Proofs.YthjldemjipnmdaaGreatDoor.Sx
namespace Go.Proofs.YthjldemjipnmdaaGreatDoor.Sx
open Go.RowKit
def axBin (Tb : Tab) (op : BinOp) (T : Nat) (x y : Operand) (t : Tm) (h : Hp) : Out := match ev t x with
 | .val (.int k a) => match ev t y with
  | .val (.int k' b) => match shBin op k a b with
   | some v => some (.val v, h, some (0 ≤ b))
   | none => match keq k k' with
    | true => match intBin op k a b with
     | some (v, s) => some (.val v, h, s)
     | none => none
    | false => none
  | _ => none
 | .val (.string a) => match ev t y with
  | .val (.string b) => match strBin op a b with
   | some (v, s) => some (.val v, h, s)
   | none => none
  | _ => none
 | .val (.bool a) => match ev t y with
  | .val (.bool b) => match lookT Tb T with
   | some z => match z.kind with
    | .bool => match op with
     | .eql => some (.val (.bool (a == b)), h, none)
     | .neq => some (.val (.bool (a != b)), h, none)
     | _ => none
    | _ => none
   | none => none
  | _ => none
 | _ => none
def layC (t : Tm) (plc : Nat → Option (Nat × Nat)) : List (Nat × Operand) → AL → (AL → Out) → Out
 | [], cur, k => k cur
 | (i, x) :: rest, cur, k => match plc i with
  | none => none
  | some (off, sz) => fcA (ev t x) fun v => match fitA v, Nat.beq (cellsA v).len sz, Nat.ble (off + sz) cur.len with
   | true, true, true => fcL (putL cur off (cellsA v)) fun cur => layC t plc rest cur k
   | _, _, _ => none
theorem layC_eq (t : Tm) (plc : Nat → Option (Nat × Nat)) : ∀ (parts : List (Nat × Operand)) (cur : AL) (k : AL → Out), layC t plc parts cur k = match layA t plc parts cur with
  | some l => k l
  | none => none
 | [], cur, k => rfl
 | (i, x) :: rest, cur, k => by
  unfold layC layA
  cases plc i with
  | none => rfl
  | some p =>
   obtain ⟨off, sz⟩ := p
   simp only [fcA_eq]
   cases fitA (ev t x) <;> cases Nat.beq (cellsA (ev t x)).len sz <;> cases Nat.ble (off + sz) cur.len <;> try rfl
   simp only [fcL_eq]
   exact layC_eq t plc rest _ k
def axBuild (Tb : Tab) (T : Nat) (parts : Array (Nat × Operand)) (t : Tm) (h : Hp) : Out := match lookT Tb T with
 | some y => match y.kind with
  | .struct _ => fcL (valsL y.zero) fun l0 => layC t (fun i => nthO y.plc i) parts.toList l0 fun l => some (.agg l, h, none)
  | .array _ e => match lookT Tb e with
   | some z => fcL (valsL y.zero) fun l0 => layC t (fun i => some (i * z.size, z.size)) parts.toList l0 fun l => some (.agg l, h, none)
   | none => none
  | _ => none
 | none => none
def freshH (h : Hp) (s : Nat) : Bool := match getH h s with
 | none => true
 | some _ => false
def axBuildSlice (Tb : Tab) (s T n : Nat) (parts : Array (Nat × Operand)) (t : Tm) (h : Hp) : Out := match lookT Tb T with
 | some y => match y.kind with
  | .slice e => match lookT Tb e with
   | some z => match rowA t z.size 0 parts.toList with
    | some out => fcLs out fun out => match allC out, freshH h s, Nat.blt 0 z.size, Nat.beq parts.size n, Nat.ble (n * z.size) 1000000 with
     | true, true, true, true, true => some (.own s, (s, .row e z.size n (elsOf out)) :: h, none)
     | _, _, _, _, _ => none
    | none => none
   | none => none
  | _ => none
 | none => none
def axConv (Tb : Tab) (S T : Nat) (x : Operand) (t : Tm) (h : Hp) : Out := match lookT Tb S, lookT Tb T with
 | some ys, some y => match ev t x with
  | .val (.int k' n) => match ys.kind, y.kind with
   | .int k2, .int k => match keq k2 k' with
    | true => some (.val (.int k n), h, some (inK k n))
    | false => none
   | _, _ => none
  | .val (.string q) => match ys.kind, y.kind with
   | .string, .slice e => match lookT Tb e with
    | some z => match z.kind with
     | .int .u8 => some (.im 1 q.size (byteEls q), h, none)
     | _ => none
    | none => none
   | .string, .string => some (.val (.string q), h, none)
   | _, _ => none
  | _ => none
 | _, _ => none
def axMakeSlice (Tb : Tab) (s T : Nat) (x v : Operand) (t : Tm) (h : Hp) : Out := match lookT Tb T with
 | some y => match y.kind with
  | .slice e => match lookT Tb e with
   | some z => match ev t x, ev t v with
    | .val (.int _ n), .val (.int _ m) => match freshH h s, Nat.ble z.bytes 1000000 with
     | true, true => some (.own s, (s, .row e z.size n.toNat (fun _ => valsL z.zero)) :: h, some (m = n ∧ 0 ≤ n ∧ n ≤ 1000000))
     | _, _ => none
    | _, _ => none
   | none => none
  | _ => none
 | none => none
def axSlice (Tb : Tab) (T : Nat) (x : Operand) (lo hi mx : Option Operand) (t : Tm) (h : Hp) : Out := match lookT Tb T with
 | some y => match y.kind with
  | .string => match ev t x with
   | .val (.string q) => match mx with
    | none => match bndA t lo 0, bndA t hi q.size with
     | some l, some u => some (.val (.string (q.extract l.toNat u.toNat)), h, some (0 ≤ l ∧ l ≤ u ∧ u ≤ q.size))
     | _, _ => none
    | some _ => none
   | _ => none
  | .slice e => match lookT Tb e with
   | some z => match ev t x with
    | .im sz n els => match bndA t lo 0, bndA t hi n, bndA t mx n, Nat.beq z.size sz, (!mx.isSome || hi.isSome) with
     | some l, some u, some m, true, true => some (.im sz (u - l).toNat (shiftF els l.toNat), h, some (0 ≤ l ∧ l ≤ u ∧ u ≤ m ∧ m ≤ n))
     | _, _, _, _, _ => none
    | _ => none
   | none => none
  | _ => none
 | none => none
def axAppend (Tb : Tab) (s T T' : Nat) (x v : Operand) (t : Tm) (h : Hp) : Out := match Nat.beq T T', lookT Tb T with
 | true, some y => match y.kind with
  | .slice e => match lookT Tb e, readA h (ev t v), freshH h s with
   | some z, some (sz2, m, els2), true => match Nat.beq z.size sz2, Nat.blt 0 z.size && Nat.ble z.bytes 1000000 && Nat.blt e 4294967295 with
    | true, true => match ev t x with
     | .own g => match getH h g with
      | some (.row e' sz n els) => match Nat.beq e' e, Nat.beq z.size sz with
       | true, true => some (.own s, (s, .row e sz (n + m) (catF n els els2)) :: (g, .dead) :: h, some (n + m ≤ 100000000))
       | _, _ => none
      | _ => none
     | .val (.slice none 0 0) => some (.own s, (s, .row e z.size m els2) :: h, some (m ≤ 100000000))
     | _ => none
    | _, _ => none
   | _, _, _ => none
  | _ => none
 | _, _ => none
def axLen (Tb : Tab) (T : Nat) (x : Operand) (t : Tm) (h : Hp) : Out := match lookT Tb T with
 | some y => match y.kind with
  | .string => match ev t x with
   | .val (.string q) => some (.val (.int .i64 q.size), h, none)
   | _ => none
  | .slice _ => match ev t x with
   | .val (.slice none 0 0) => some (.val (.int .i64 0), h, none)
   | u => match readA h u with
    | some (_, n, _) => some (.val (.int .i64 n), h, none)
    | none => none
  | _ => none
 | none => none
def axCall (Tb : Tab) (d : Option Nat) (b : Builtin) (args : List Operand) (tys : List Nat) (t : Tm) (h : Hp) : Out := match b, args, tys with
 | .len, [x], [T] => axLen Tb T x t h
 | .min, [x, y], [_, _] => match ev t x, ev t y with
  | .val (.int k a), .val (.int _ b) => some (.val (.int k (min a b)), h, none)
  | _, _ => none
 | .min, [x, y, u], [_, _, _] => match ev t x, ev t y, ev t u with
  | .val (.int k a), .val (.int _ b), .val (.int _ c) => some (.val (.int k (min (min a b) c)), h, none)
  | _, _, _ => none
 | .max, [x, y], [_, _] => match ev t x, ev t y with
  | .val (.int k a), .val (.int _ b) => some (.val (.int k (max a b)), h, none)
  | _, _ => none
 | .append, [x, y], [T, T'] => match d with
  | some s => axAppend Tb s T T' x y t h
  | none => none
 | _, _, _ => none
def ax (Tb : Tab) (d : Option Nat) (o : Op) (t : Tm) (h : Hp) : Out := match o with
 | .move x => fcA (ev t x) fun v => some (v, h, none)
 | .assign x => fcA (ev t x) fun v => some (v, h, none)
 | .pick c x y => match ev t c with
  | .val (.bool b) => match b with
   | true => fcA (ev t x) fun v => some (v, h, none)
   | false => fcA (ev t y) fun v => some (v, h, none)
  | _ => none
 | .extract x i => match ev t x with
  | .tup cs => match Nat.blt i cs.len with
   | true => fcA (getL cs i) fun v => some (v, h, none)
   | false => none
  | _ => none
 | .unOp op _ x => match op with
  | .not => match ev t x with
   | .val (.bool b) => some (.val (.bool (!b)), h, none)
   | _ => none
  | .neg => match ev t x with
   | .val (.int .i64 n) => some (.val (.int .i64 (-n)), h, some (i64B (0 - n)))
   | _ => none
  | _ => none
 | .binOp op T x y _ => axBin Tb op T x y t h
 | .field T x i => axField Tb T x i t h
 | .fieldAddr T x i => axFieldAddr Tb T x i t h
 | .nilCheck x => fcA (ev t x) fun v => match isPtr v with
  | true => some (v, h, none)
  | false => none
 | .indexAddr T x i => axIdxAddr Tb T x i t h
 | .index T x i => axIdx Tb T x i t h
 | .load T x => axLoad Tb T x t h
 | .store T x v => match d with
  | none => axStore Tb T x v t h
  | some _ => none
 | .box T x => match d with
  | some s => fcA (ev t x) fun v => match fitA v, freshH h s with
   | true, true => fcL (cellsA v) fun l => some (.ptr s 0, (s, .box T l) :: h, none)
   | _, _ => none
  | none => none
 | .alloc T => match d, lookT Tb T with
  | some s, some y => match freshH h s with
   | true => fcL (valsL y.zero) fun l => some (.ptr s 0, (s, .box T l) :: h, none)
   | false => none
  | _, _ => none
 | .build T parts => axBuild Tb T parts t h
 | .buildSlice T n parts => match d with
  | some s => axBuildSlice Tb s T n parts t h
  | none => none
 | .convert S T x => axConv Tb S T x t h
 | .makeFunc (.func f) first caps => match Nat.beq first.size 0 with
  | true => fcL (opsL t caps.toList) fun l => some (.fn f l, h, none)
  | false => none
 | .makeSlice T x v => match d with
  | some s => axMakeSlice Tb s T x v t h
  | none => none
 | .slice T x lo hi mx => axSlice Tb T x lo hi mx t h
 | .call c => match c.callee with
  | .builtin b => axCall Tb d b c.args.toList c.argTypes.toList t h
  | _ => none
 | _ => none
section
variable {P : Program} {F : Fr} {t : Tm} {h h' : Hp} {d : Option Tmp} {ty : TypeId} {ps : String} {af : Array Edge} {gd : Option (Nat × Bool)} {Tb : Tab} {v : AV} {s : Option Prop}
theorem fresh_ok {k : Nat} (hf : freshH h k = true) : getH h k = none := by
 unfold freshH at hf
 split at hf
 ·assumption
 ·cases hf
theorem axBin_ok (hT : TabOk P Tb) (op : BinOp) (T T' : Nat) (x y : Operand) (he : axBin Tb op T x y t h = some (v, h', s)) (hs : ∀ p, s = some p → p) : OpWp P F ⟨d, .binOp op T x y T', ty, ps, af, gd⟩ t h v h' := by
 unfold axBin at he
 split at he <;> try (cases he; done)
 ·split at he <;> try (cases he; done)
  split at he
  ·rename_i k a hx _ k' b hy _ u hu
   obtain ⟨rfl, rfl, rfl⟩ := some3 he
   exact ok_shift op T T' x y k k' a b u hx hy hu (hs _ rfl)
  ·split at he <;> try (cases he; done)
   split at he <;> try (cases he; done)
   rename_i k a hx _ k' b hy _ _ _ hk _ u q hu
   obtain ⟨rfl, rfl, rfl⟩ := some3 he
   exact ok_int op T T' x y k k' a b u q hx hy hk hu hs
 ·split at he <;> try (cases he; done)
  split at he <;> try (cases he; done)
  rename_i a hx _ b hy _ u q hu
  obtain ⟨rfl, rfl, rfl⟩ := some3 he
  exact ok_str op T T' x y a b u q hx hy hu hs
 ·split at he <;> try (cases he; done)
  split at he <;> try (cases he; done)
  split at he <;> try (cases he; done)
  split at he <;> try (cases he; done)
  ·rename_i a hx _ b hy _ z hz _ hk _
   obtain ⟨rfl, rfl, rfl⟩ := some3 he
   exact ok_boolEq false .eql T T' x y a b rfl ((hT _ _ hz).boolT hk) hx hy
  ·rename_i a hx _ b hy _ z hz _ hk _
   obtain ⟨rfl, rfl, rfl⟩ := some3 he
   exact ok_boolEq true .neq T T' x y a b rfl ((hT _ _ hz).boolT hk) hx hy
theorem axBuild_ok (hT : TabOk P Tb) (T : Nat) (parts : Array (Nat × Operand)) (he : axBuild Tb T parts t h = some (v, h', s)) : OpWp P F ⟨d, .build T parts, ty, ps, af, gd⟩ t h v h' := by
 unfold axBuild at he
 simp only [fcL_eq, layC_eq] at he
 split at he <;> try (cases he; done)
 split at he <;> try (cases he; done)
 ·split at he <;> try (cases he; done)
  rename_i y hy _ fl hk _ out ho
  obtain ⟨rfl, rfl, rfl⟩ := some3 he
  simp only [nthO_eq] at ho
  exact ok_build T parts y (hT _ _ hy) fl hk out ho
 ·split at he <;> try (cases he; done)
  split at he <;> try (cases he; done)
  rename_i y hy _ n e hk _ z hz _ out ho
  obtain ⟨rfl, rfl, rfl⟩ := some3 he
  exact ok_buildArr T parts y z (hT _ _ hy) n e hk (hT _ _ hz) out ho
theorem axBuildSlice_ok (hT : TabOk P Tb) (k T n : Nat) (parts : Array (Nat × Operand)) (he : axBuildSlice Tb k T n parts t h = some (v, h', s)) : OpWp P F ⟨some k, .buildSlice T n parts, ty, ps, af, gd⟩ t h v h' := by
 unfold axBuildSlice at he
 split at he <;> try (cases he; done)
 split at he <;> try (cases he; done)
 split at he <;> try (cases he; done)
 split at he <;> try (cases he; done)
 rw [fcLs_eq] at he
 split at he <;> try (cases he; done)
 rename_i y hy _ e hk _ z hz _ out ho _ _ _ _ _ h1 h2 h3 h4 h5
 obtain ⟨rfl, rfl, rfl⟩ := some3 he
 exact ok_buildSlice k T n parts y z (hT _ _ hy) e hk (hT _ _ hz) (blt_iff h3) out ho (Nat.eq_of_beq_eq_true h4) h1 (fresh_ok h2) (Nat.le_of_ble_eq_true h5)
theorem axConv_ok (hT : TabOk P Tb) (S T : Nat) (x : Operand) (he : axConv Tb S T x t h = some (v, h', s)) (hs : ∀ p, s = some p → p) : OpWp P F ⟨d, .convert S T x, ty, ps, af, gd⟩ t h v h' := by
 unfold axConv at he
 split at he <;> try (cases he; done)
 split at he <;> try (cases he; done)
 ·split at he <;> try (cases he; done)
  split at he <;> try (cases he; done)
  rename_i ys y hys hy _ k' n hx _ _ k2 k hk1 hk2 _ hk
  obtain ⟨rfl, rfl, rfl⟩ := some3 he
  obtain rfl := keq_eq hk
  exact ok_convIn S T x k k2 n y ys hx (hT _ _ hys) hk1 (hT _ _ hy) hk2 (hs _ rfl)
 ·split at he <;> try (cases he; done)
  ·split at he <;> try (cases he; done)
   split at he <;> try (cases he; done)
   rename_i ys y hys hy _ q hx _ _ e hk1 hk2 _ z hz _ hke
   obtain ⟨rfl, rfl, rfl⟩ := some3 he
   exact ok_strBytes S T x q y ys z e hx (hT _ _ hys) hk1 (hT _ _ hy) hk2 (hT _ _ hz) hke
  ·rename_i ys y hys hy _ q hx _ _ hk1 hk2
   obtain ⟨rfl, rfl, rfl⟩ := some3 he
   exact ok_convStr S T x q y ys hx (hT _ _ hys) hk1 (hT _ _ hy) hk2
theorem axMakeSlice_ok (hT : TabOk P Tb) (k T : Nat) (x u : Operand) (he : axMakeSlice Tb k T x u t h = some (v, h', s)) (hs : ∀ p, s = some p → p) : OpWp P F ⟨some k, .makeSlice T x u, ty, ps, af, gd⟩ t h v h' := by
 unfold axMakeSlice at he
 split at he <;> try (cases he; done)
 split at he <;> try (cases he; done)
 split at he <;> try (cases he; done)
 split at he <;> try (cases he; done)
 split at he <;> try (cases he; done)
 rename_i y hy _ e hk _ z hz _ _ k1 n k2 m hx hu _ _ h1 h2
 obtain ⟨rfl, rfl, rfl⟩ := some3 he
 obtain ⟨rfl, h3, h4⟩ := hs _ rfl
 exact ok_makeSlice k T x u k1 k2 m y z e hx hu (hT _ _ hy) hk (hT _ _ hz) (fresh_ok h1) ⟨h3, h4, Nat.le_of_ble_eq_true h2⟩
theorem axSlice_ok (hT : TabOk P Tb) (T : Nat) (x : Operand) (lo hi mx : Option Operand) (he : axSlice Tb T x lo hi mx t h = some (v, h', s)) (hs : ∀ p, s = some p → p) : OpWp P F ⟨d, .slice T x lo hi mx, ty, ps, af, gd⟩ t h v h' := by
 unfold axSlice at he
 split at he <;> try (cases he; done)
 split at he <;> try (cases he; done)
 ·split at he <;> try (cases he; done)
  split at he <;> try (cases he; done)
  split at he <;> try (cases he; done)
  rename_i y hy _ hk _ q hx _ _ _ l u hl hu
  obtain ⟨rfl, rfl, rfl⟩ := some3 he
  exact ok_sliceStr T x lo hi q l u y hx hl hu (hT _ _ hy) hk (hs _ rfl)
 ·split at he <;> try (cases he; done)
  split at he <;> try (cases he; done)
  split at he <;> try (cases he; done)
  rename_i y hy _ e hk _ z hz _ sz n els hx _ _ _ _ _ l u m hl hu hm h1 h2
  obtain ⟨rfl, rfl, rfl⟩ := some3 he
  exact ok_sliceIm T x lo hi mx sz n els l u m y z e hx hl hu hm (fun hq => by rw [hq] at h2; simpa using h2) (hT _ _ hy) hk (hT _ _ hz) (Nat.eq_of_beq_eq_true h1) (hs _ rfl)
theorem axAppend_ok (hT : TabOk P Tb) (k T T' : Nat) (x u : Operand) (he : axAppend Tb k T T' x u t h = some (v, h', s)) (hs : ∀ p, s = some p → p) : OpWp P F ⟨some k, .call { callee := .builtin .append, args := #[x, u], argTypes := #[T, T'] }, ty, ps, af, gd⟩ t h v h' := by
 unfold axAppend at he
 split at he <;> try (cases he; done)
 split at he <;> try (cases he; done)
 split at he <;> try (cases he; done)
 split at he <;> try (cases he; done)
 split at he <;> try (cases he; done)
 ·split at he <;> try (cases he; done)
  split at he <;> try (cases he; done)
  rename_i y hTT hy _ e hk _ _ _ z sz2 m els2 hz hr hf _ _ h1 h2 _ g hx _ e' sz n els hg _ _ h3 h4
  obtain ⟨rfl, rfl, rfl⟩ := some3 he
  obtain rfl := Nat.eq_of_beq_eq_true hTT
  obtain rfl := Nat.eq_of_beq_eq_true h1
  obtain rfl := Nat.eq_of_beq_eq_true h3
  obtain rfl := Nat.eq_of_beq_eq_true h4
  obtain ⟨h2, hme⟩ := (Bool.and_eq_true _ _).mp h2
  obtain ⟨h2, hby⟩ := (Bool.and_eq_true _ _).mp h2
  have h5 : n + m ≤ 100000000 := hs _ rfl
  have h6 : (n + m) * z.bytes ≤ 100000000 * 1000000 := Nat.mul_le_mul h5 (Nat.le_of_ble_eq_true hby)
  exact ok_appendOwn k T x u g e' z.size n m els els2 y z hx hg hr (hT _ _ hy) hk (hT _ _ hz) rfl (blt_iff h2) (fresh_ok hf) (by omega) (by omega) (blt_iff hme)
 ·rename_i y hTT hy _ e hk _ _ _ z sz2 m els2 hz hr hf _ _ h1 h2 _ hx
  obtain ⟨rfl, rfl, rfl⟩ := some3 he
  obtain rfl := Nat.eq_of_beq_eq_true hTT
  obtain rfl := Nat.eq_of_beq_eq_true h1
  obtain ⟨h2, _⟩ := (Bool.and_eq_true _ _).mp h2
  obtain ⟨h2, hby⟩ := (Bool.and_eq_true _ _).mp h2
  have h5 : m ≤ 100000000 := hs _ rfl
  have h6 : m * z.bytes ≤ 100000000 * 1000000 := Nat.mul_le_mul h5 (Nat.le_of_ble_eq_true hby)
  exact ok_appendNil k T x u e z.size m els2 y z hx hr (hT _ _ hy) hk (hT _ _ hz) rfl (blt_iff h2) (fresh_ok hf) (by omega) (by omega)
theorem axLen_ok (hT : TabOk P Tb) (T : Nat) (x : Operand) (he : axLen Tb T x t h = some (v, h', s)) : OpWp P F ⟨d, .call { callee := .builtin .len, args := #[x], argTypes := #[T] }, ty, ps, af, gd⟩ t h v h' := by
 unfold axLen at he
 split at he <;> try (cases he; done)
 split at he <;> try (cases he; done)
 ·split at he <;> try (cases he; done)
  rename_i y hy _ hk _ q hx
  obtain ⟨rfl, rfl, rfl⟩ := some3 he
  exact ok_lenStr T x q y hx (hT _ _ hy) hk
 ·split at he
  ·rename_i y hy _ e hk _ hx
   obtain ⟨rfl, rfl, rfl⟩ := some3 he
   exact ok_lenNil T x y e hx (hT _ _ hy) hk
  ·split at he <;> try (cases he; done)
   rename_i y hy _ e hk _ _ _ sz n els hr
   obtain ⟨rfl, rfl, rfl⟩ := some3 he
   exact ok_lenRow T x sz n els y e hr (hT _ _ hy) hk
theorem arr_of {α : Type} {a : Array α} {l : List α} (h : a.toList = l) : a = l.toArray := by rw [← h]
theorem axCall_ok (hT : TabOk P Tb) (b : Builtin) (args : Array Operand) (tys : Array Nat) (he : axCall Tb d b args.toList tys.toList t h = some (v, h', s)) (hs : ∀ p, s = some p → p) : OpWp P F ⟨d, .call { callee := .builtin b, args := args, argTypes := tys }, ty, ps, af, gd⟩ t h v h' := by
 unfold axCall at he
 split at he <;> try (cases he; done)
 ·rename_i x T h1 h2
  rw [arr_of h1, arr_of h2]
  exact axLen_ok hT T x he
 ·split at he <;> try (cases he; done)
  rename_i x y T T' h1 h2 _ _ k a k' b hx hy
  obtain ⟨rfl, rfl, rfl⟩ := some3 he
  rw [arr_of h1, arr_of h2]
  exact ok_min T T' x y k k' a b hx hy
 ·split at he <;> try (cases he; done)
  rename_i x y u T T' T2 h1 h2 _ _ _ k a k' b k2 c hx hy hu
  obtain ⟨rfl, rfl, rfl⟩ := some3 he
  rw [arr_of h1, arr_of h2]
  exact ok_min3 T T' T2 x y u k k' k2 a b c hx hy hu
 ·split at he <;> try (cases he; done)
  rename_i x y T T' h1 h2 _ _ k a k' b hx hy
  obtain ⟨rfl, rfl, rfl⟩ := some3 he
  rw [arr_of h1, arr_of h2]
  exact ok_max T T' x y k k' a b hx hy
 ·split at he <;> try (cases he; done)
  rename_i x y T T' h1 h2 _ k
  rw [arr_of h1, arr_of h2]
  exact axAppend_ok hT k T T' x y he hs
theorem ax_ok (hT : TabOk P Tb) (o : Op) (he : ax Tb d o t h = some (v, h', s)) (hs : ∀ p, s = some p → p) : OpWp P F ⟨d, o, ty, ps, af, gd⟩ t h v h' := by
 unfold ax at he
 split at he <;> try (cases he; done)
 ·rw [fcA_eq] at he; obtain ⟨rfl, rfl, rfl⟩ := some3 he; exact ok_move _
 ·rw [fcA_eq] at he; obtain ⟨rfl, rfl, rfl⟩ := some3 he; exact ok_assign _
 ·split at he <;> try (cases he; done)
  rename_i c x y _ b hc
  have := ok_pick (P := P) (F := F) (h := h) (d := d) (ty := ty) (ps := ps) (af := af) (gd := gd) c x y b hc
  split at he
  ·rw [fcA_eq] at he; obtain ⟨rfl, rfl, rfl⟩ := some3 he; exact this
  ·rw [fcA_eq] at he; obtain ⟨rfl, rfl, rfl⟩ := some3 he; exact this
 ·split at he <;> try (cases he; done)
  split at he <;> try (cases he; done)
  rename_i x i _ cs hx _ hi
  rw [fcA_eq] at he; obtain ⟨rfl, rfl, rfl⟩ := some3 he
  exact ok_extract x i cs hx (blt_iff hi)
 ·split at he <;> try (cases he; done)
  ·split at he <;> try (cases he; done)
   rename_i hx
   obtain ⟨rfl, rfl, rfl⟩ := some3 he
   exact ok_not _ _ _ hx
  ·split at he <;> try (cases he; done)
   rename_i hx
   obtain ⟨rfl, rfl, rfl⟩ := some3 he
   exact ok_neg _ _ _ hx (hs _ rfl)
 ·exact axBin_ok hT _ _ _ _ _ he hs
 ·exact axField_ok hT _ _ _ he
 ·exact axFieldAddr_ok hT _ _ _ he
 ·rw [fcA_eq] at he
  split at he <;> try (cases he; done)
  rename_i hp
  obtain ⟨rfl, rfl, rfl⟩ := some3 he
  exact ok_nilCheck _ hp
 ·exact axIdxAddr_ok hT _ _ _ he hs
 ·exact axIdx_ok hT _ _ _ he hs
 ·exact axLoad_ok hT _ _ he hs
 ·split at he <;> try (cases he; done)
  exact axStore_ok hT _ _ _ he hs
 ·split at he <;> try (cases he; done)
  rw [fcA_eq] at he
  split at he <;> try (cases he; done)
  rename_i hf hr
  rw [fcL_eq] at he
  obtain ⟨rfl, rfl, rfl⟩ := some3 he
  exact ok_box _ _ _ hf (fresh_ok hr)
 ·split at he <;> try (cases he; done)
  split at he <;> try (cases he; done)
  rename_i hy _ hr
  rw [fcL_eq] at he
  obtain ⟨rfl, rfl, rfl⟩ := some3 he
  exact ok_alloc _ _ _ (hT _ _ hy) (fresh_ok hr)
 ·exact axBuild_ok hT _ _ he
 ·split at he <;> try (cases he; done)
  exact axBuildSlice_ok hT _ _ _ _ he
 ·exact axConv_ok hT _ _ _ he hs
 ·split at he <;> try (cases he; done)
  rename_i f first caps _ h0
  rw [fcL_eq] at he
  obtain ⟨rfl, rfl, rfl⟩ := some3 he
  obtain rfl : first = #[] := Array.eq_empty_of_size_eq_zero (Nat.eq_of_beq_eq_true h0)
  exact ok_makeFunc f caps
 ·split at he <;> try (cases he; done)
  exact axMakeSlice_ok hT _ _ _ _ he hs
 ·exact axSlice_ok hT _ _ _ _ _ he hs
 ·split at he <;> try (cases he; done)
  rename_i c _ b hc
  obtain ⟨callee, args, tys⟩ := c
  subst hc
  exact axCall_ok hT b args tys he hs
end
end Go.Proofs.YthjldemjipnmdaaGreatDoor.Sx
namespace Go.Proofs.YthjldemjipnmdaaGreatDoor.Sx
open Go.RowKit
inductive It where
 | code (c : Code)
 | ops (all : Array Oper) (l : List Oper)
 | blk (id : Nat)
 | inv (J : Tm → Hp → Prop)
 | scp (l : Nat) (J : Tm → Hp → Prop)
 | lp (n : Nat) (c : Code)
def ST (F : Fr) (N : Nat) (t : Tm) (h : Hp) (a : Act) (w : World) : Prop := ∃ r, HR F r h w ∧ TR w r (Mut F.M0 r h) t a ∧ a.tmps.size = N ∧ a.defers = []
abbrev Post := Exit → Act → World → Prop
def WN (P : Program) (c : Code) (Q : Post) : Nat → Post
 | 0 => fun e a w => match e with
  | .normal => False
  | e => Q e a w
 | n + 1 => fun e a w => match e with
  | .normal => c.wp P (WN P c Q n) a w
  | e => Q e a w
def QS (P : Program) (F : Fr) (N : Nat) (Q : Post) : List It → Post
 | [] => Q
 | .code c :: k => fun e a w => match e with
  | .normal => c.wp P (QS P F N Q k) a w
  | e => QS P F N Q k e a w
 | .ops all l :: k => fun e a w => match e with
  | .normal => wpList P all (QS P F N Q k) l a w
  | e => QS P F N Q k e a w
 | .blk id :: k => fun e a w => match e with
  | .exit id' => if id' = id then QS P F N Q k .normal a w else QS P F N Q k (.exit id') a w
  | e => QS P F N Q k e a w
 | .inv J :: k => fun e a w => match e with
  | .normal => ∃ t h, J t h ∧ ST F N t h a w
  | e => QS P F N Q k e a w
 | .scp l J :: k => fun e a w => match e with
  | .goto l' => l' = l ∧ ∃ t h, J t h ∧ ST F N t h a w
  | e => QS P F N Q k e a w
 | .lp n c :: k => WN P c (QS P F N Q k) n
def Good (P : Program) (F : Fr) (N : Nat) (Q : Post) (k : List It) (t : Tm) (h : Hp) : Prop := ∀ a w, ST F N t h a w → QS P F N Q k .normal a w
section
variable {P : Program} {F : Fr} {N : Nat} {Q : Post} {k : List It} {t : Tm} {h : Hp} {Tb : Tab}
theorem wp_of_code {c : Code} {a : Act} {w : World} {R R' : Post} (hc : c.wp P R a w) (h : ∀ e a w, R e a w → R' e a w) : c.wp P R' a w := wp_mono hc h
theorem good_seq {x y : Code} (H : Good P F N Q (.code x :: .code y :: k) t h) : Good P F N Q (.code (.seq x y) :: k) t h := fun a w hs =>
 wp_seq (wp_of_code (H a w hs) (fun e a w he => by cases e <;> exact he))
theorem good_block {id : Nat} {c : Code} (H : Good P F N Q (.code c :: .blk id :: k) t h) : Good P F N Q (.code (.block id c) :: k) t h := fun a w hs =>
 wp_block (wp_of_code (H a w hs) (fun e a w he => by cases e <;> exact he))
theorem good_skip (H : Good P F N Q k t h) : Good P F N Q (.code .skip :: k) t h := fun a w hs => wp_skip (H a w hs)
theorem good_region {id : Nat} {all : Array Oper} (H : Good P F N Q (.ops all all.toList :: k) t h) : Good P F N Q (.code (.region id all false) :: k) t h := fun a w hs => by
 have := H a w hs
 have e : all.toList.toArray = all := by simp
 have h2 := wp_region_lit (P := P) (id := id) (Q := QS P F N Q k) (l := all.toList) (a := a) (w := w) (by rw [e]; exact this)
 rw [e] at h2
 exact h2
theorem good_opsEnd {all : Array Oper} (H : Good P F N Q k t h) : Good P F N Q (.ops all [] :: k) t h := fun a w hs => wpList_nil (P := P) (ops := all) (H a w hs)
theorem good_lp {n : Nat} {c : Code} (H : Good P F N Q (.code c :: .lp n c :: k) t h) : Good P F N Q (.lp (n + 1) c :: k) t h := fun a w hs => wp_of_code (H a w hs) (fun e _ _ he => by cases n <;> cases e <;> exact he)
theorem good_loopN {c : Code} (n : Nat) (H : Good P F N Q (.code c :: .lp n c :: k) t h) : Good P F N Q (.code (.loop c) :: k) t h := fun a w hs => by
 refine wp_loop_ghost (fun n a w => WN P c (QS P F N Q k) n .normal a w) (n + 1) (wp_of_code (H a w hs) (fun e _ _ he => by cases n <;> cases e <;> exact he)) ?_
 intro n a w hn
 cases n with
 | zero => exact hn.elim
 | succ n =>
  refine wp_of_code hn (fun e a w he => ?_)
  cases e with
  | normal => exact ⟨n, Nat.lt_succ_self n, he⟩
  | _ => cases n <;> exact he
theorem good_scpEnd {l : Nat} {J : Tm → Hp → Prop} (H : Good P F N Q k t h) : Good P F N Q (.scp l J :: k) t h := fun a w hs => H a w hs
theorem good_label {l : Nat} (H : Good P F N Q k t h) : Good P F N Q (.code (.label l) :: k) t h := fun a w hs => wp_label (H a w hs)
theorem good_blkEnd {id : Nat} (H : Good P F N Q k t h) : Good P F N Q (.blk id :: k) t h := fun a w hs => H a w hs
def popB : List It → Nat → Option (List It)
 | [], _ => none
 | .blk id' :: k, id => match Nat.beq id id' with
  | true => some k
  | false => popB k id
 | _ :: k, id => popB k id
theorem pop_ok : ∀ {k k' : List It} {id : Nat}, popB k id = some k' → ∀ {a : Act} {w : World}, QS P F N Q k' .normal a w → QS P F N Q k (.exit id) a w
 | [], _, _, he, _, _, _ => by cases he
 | .blk id' :: k, k', id, he, a, w, hq => by
  unfold popB at he
  split at he
  ·rename_i hb
   obtain rfl := Option.some.inj he
   obtain rfl := Nat.eq_of_beq_eq_true hb
   unfold QS
   simp only [if_true]
   exact hq
  ·rename_i hb
   unfold QS
   have hne : id ≠ id' := Nat.ne_of_beq_eq_false hb
   simp only [if_neg hne]
   exact pop_ok he hq
 | .code c :: k, k', id, he, a, w, hq => pop_ok (k := k) he hq
 | .ops all l :: k, k', id, he, a, w, hq => pop_ok (k := k) he hq
 | .inv J :: k, k', id, he, a, w, hq => pop_ok (k := k) he hq
 | .scp _ _ :: k, k', id, he, a, w, hq => pop_ok (k := k) he hq
 | .lp n _ :: k, k', id, he, a, w, hq => by
  have := pop_ok (k := k) he hq
  cases n <;> exact this
theorem good_exit {id : Nat} {k' : List It} (he : popB k id = some k') (H : Good P F N Q k' t h) : Good P F N Q (.code (.exit id) :: k) t h := fun a w hs => wp_exit (pop_ok he (H a w hs))
theorem good_cond {c : Operand} {x y : Code} {b : Bool} (hc : ev t c = .val (.bool b)) (h1 : b = true → Good P F N Q (.code x :: k) t h) (h2 : b = false → Good P F N Q (.code y :: k) t h) : Good P F N Q (.code (.cond c x y) :: k) t h := fun a w hs => by
 obtain ⟨r, hr, ht, hn, hd⟩ := hs
 have := VR_val ht hc
 exact wp_cond_split this (fun e => h1 e a w ⟨r, hr, ht, hn, hd⟩) (fun e => h2 e a w ⟨r, hr, ht, hn, hd⟩)
theorem good_op {all : Array Oper} {o : Oper} {l : List Oper} {v : AV} {h' : Hp} (hg : o.guard = none) (ho : OpWp P F o t h v h') (hN : ∀ s : Nat, o.dst = some s → s < N) (H : Good P F N Q (.ops all l :: k) (upd t o.dst v) h') : Good P F N Q (.ops all (o :: l) :: k) t h := fun a w hs => by
 obtain ⟨r, hr, ht, hn, hd⟩ := hs
 show wpList P all (QS P F N Q k) (o :: l) a w
 refine wpList_plain hg (fun K hK => ho r a w hr ht K _ (fun V w' r' h1 h2 h3 => hK _ _ (H _ _ ⟨r', h1, ?_, ?_, ?_⟩)))
 ·exact (ht.evo h2).put o.dst (fun s e => by rw [hn]; exact hN s e) h3
 ·cases o.dst <;> simp [Act.put, hn]
 ·cases o.dst <;> simp [Act.put, hd]
theorem put_size (a : Act) (d : Option Tmp) (V : Value) : (a.put d V).tmps.size = a.tmps.size := by cases d <;> simp [Act.put]
theorem put_defers (a : Act) (d : Option Tmp) (V : Value) : (a.put d V).defers = a.defers := by cases d <;> simp [Act.put]
def guardA (all : Array Oper) (t : Tm) (j : Nat) : AV := match all[j]? with
 | some o => match o.dst with
  | some s => getT t s
  | none => .any
 | none => .any
theorem guard_ok {all : Array Oper} {j : Nat} {b : Bool} {a : Act} {w : World} {r : Rho} {M : Cond} (ht : TR w r M t a) (hn : a.tmps.size = N) (hN : ∀ (o : Oper) (s : Nat), all[j]? = some o → o.dst = some s → s < N) (hg : guardA all t j = .val (.bool b)) : yielded all a.tmps j = some b := by
 unfold guardA at hg
 unfold yielded
 cases ho : all[j]? with
 | none => rw [ho] at hg; cases hg
 | some o =>
  rw [ho] at hg
  cases hd : o.dst with
  | none => simp only [hd] at hg; cases hg
  | some s =>
   simp only [hd] at hg
   have hs := hN o s ho hd
   have := ht s
   rw [hg] at this
   unfold VR at this
   have h1 : a.tmps[s]? = some (.bool b) := by
    rw [Array.getElem?_eq_getElem (by omega)]
    rw [Array.getD_eq_getD_getElem?, Array.getElem?_eq_getElem (by omega)] at this
    simpa using this
   simp [hd, h1]
theorem good_opYes {all : Array Oper} {o : Oper} {l : List Oper} {v : AV} {h' : Hp} {j : Nat} {b : Bool} (hg : o.guard = some (j, b)) (hy : guardA all t j = .val (.bool b)) (hNj : ∀ (o : Oper) (s : Nat), all[j]? = some o → o.dst = some s → s < N) (ho : OpWp P F o t h v h') (hN : ∀ s : Nat, o.dst = some s → s < N) (H : Good P F N Q (.ops all l :: k) (upd t o.dst v) h') : Good P F N Q (.ops all (o :: l) :: k) t h := fun a w hs => by
 obtain ⟨r, hr, ht, hn, hd⟩ := hs
 show wpList P all (QS P F N Q k) (o :: l) a w
 have hw : Region.wanted o (yielded all a.tmps) = true := by
  unfold Region.wanted
  rw [hg]
  simp [guard_ok ht hn hNj hy]
 refine wpList_step (fun K hK => ?_)
 rw [hw, if_pos rfl]
 exact ho r a w hr ht K _ (fun V w' r' h1 h2 h3 => hK _ _ (H _ _ ⟨r', h1, (ht.evo h2).put o.dst (fun s e => by rw [hn]; exact hN s e) h3, by rw [put_size, hn], by rw [put_defers, hd]⟩))
theorem good_opNo {all : Array Oper} {o : Oper} {l : List Oper} {j : Nat} {b b' : Bool} (hg : o.guard = some (j, b)) (hy : guardA all t j = .val (.bool b')) (hne : b' = !b) (hNj : ∀ (o : Oper) (s : Nat), all[j]? = some o → o.dst = some s → s < N) (hN : ∀ s : Nat, o.dst = some s → s < N) (H : Good P F N Q (.ops all l :: k) (upd t o.dst (.val undef)) h) : Good P F N Q (.ops all (o :: l) :: k) t h := fun a w hs => by
 obtain ⟨r, hr, ht, hn, hd⟩ := hs
 show wpList P all (QS P F N Q k) (o :: l) a w
 have hw : Region.wanted o (yielded all a.tmps) = false := by
  unfold Region.wanted
  rw [hg]
  simp only [guard_ok ht hn hNj hy, hne]
  cases b <;> simp
 refine wpList_step (fun K hK => ?_)
 rw [hw, if_neg (by simp)]
 exact hK _ _ (H _ _ ⟨r, hr, ht.put o.dst (fun s e => by rw [hn]; exact hN s e) vr_val, by rw [put_size, hn], by rw [put_defers, hd]⟩)
theorem good_opUn {all : Array Oper} {o : Oper} {l : List Oper} {j : Nat} {b : Bool} {u : Array Value} (hg : o.guard = some (j, b)) (hy : guardA all t j = .val (.tuple u)) (hNj : ∀ (o : Oper) (s : Nat), all[j]? = some o → o.dst = some s → s < N) (hN : ∀ s : Nat, o.dst = some s → s < N) (H : Good P F N Q (.ops all l :: k) (upd t o.dst (.val undef)) h) : Good P F N Q (.ops all (o :: l) :: k) t h := fun a w hs => by
 obtain ⟨r, hr, ht, hn, hd⟩ := hs
 show wpList P all (QS P F N Q k) (o :: l) a w
 have hyi : yielded all a.tmps j = none := by
  unfold guardA at hy
  unfold yielded
  cases ho : all[j]? with
  | none => rw [ho] at hy; cases hy
  | some o =>
   rw [ho] at hy
   cases hdd : o.dst with
   | none => simp only [hdd] at hy; cases hy
   | some s =>
    simp only [hdd] at hy
    have hs := hNj o s ho hdd
    have := ht s
    rw [hy] at this
    unfold VR at this
    have h1 : a.tmps[s]? = some (.tuple u) := by
     rw [Array.getElem?_eq_getElem (by omega)]
     rw [Array.getD_eq_getD_getElem?, Array.getElem?_eq_getElem (by omega)] at this
     simpa using this
    simp [hdd, h1]
 have hw : Region.wanted o (yielded all a.tmps) = false := by
  unfold Region.wanted
  rw [hg]
  simp [hyi]
 refine wpList_step (fun K hK => ?_)
 rw [hw, if_neg (by simp)]
 exact hK _ _ (H _ _ ⟨r, hr, ht.put o.dst (fun s e => by rw [hn]; exact hN s e) vr_val, by rw [put_size, hn], by rw [put_defers, hd]⟩)
end
end Go.Proofs.YthjldemjipnmdaaGreatDoor.Sx
namespace Go.Proofs.YthjldemjipnmdaaGreatDoor.Sx
open Go.RowKit
def dok (N : Nat) : Option Nat → Bool
 | none => true
 | some s => Nat.blt s N
abbrev Nxt := Option (List It × Tm × Hp × Option Prop)
def stepOp (Tb : Tab) (N : Nat) (all : Array Oper) (o : Oper) (l : List Oper) (k : List It) (t : Tm) (h : Hp) : Nxt := match dok N o.dst with
 | true => match ax Tb o.dst o.op t h with
  | some (v, h', s) => match o.dst with
   | some d => some (.ops all l :: k, (d, v) :: t, h', s)
   | none => some (.ops all l :: k, t, h', s)
  | none => none
 | false => none
def stepNo (N : Nat) (all : Array Oper) (o : Oper) (l : List Oper) (k : List It) (t : Tm) (h : Hp) : Nxt := match o.dst with
 | some d => match Nat.blt d N with
  | true => some (.ops all l :: k, (d, .val undef) :: t, h, none)
  | false => none
 | none => some (.ops all l :: k, t, h, none)
def step (Tb : Tab) (N : Nat) : List It → Tm → Hp → Nxt
 | .code c :: k, t, h => match c with
  | .seq x y => some (.code x :: .code y :: k, t, h, none)
  | .skip => some (k, t, h, none)
  | .label _ => some (k, t, h, none)
  | .region _ all draw => match draw with
   | false => some (.ops all all.toList :: k, t, h, none)
   | true => none
  | .block id c => some (.code c :: .blk id :: k, t, h, none)
  | .exit id => match popB k id with
   | some k' => some (k', t, h, none)
   | none => none
  | .cond c x y => match ev t c with
   | .val (.bool b) => match b with
    | true => some (.code x :: k, t, h, none)
    | false => some (.code y :: k, t, h, none)
   | _ => none
  | _ => none
 | .ops all l :: k, t, h => match l with
  | [] => some (k, t, h, none)
  | o :: l => match o.guard with
   | none => stepOp Tb N all o l k t h
   | some (j, b) => match nthO all.toList j with
    | some oj => match oj.dst with
     | some sj => match Nat.blt sj N, getT t sj with
      | true, .val (.bool b') => match b, b' with
       | true, true => stepOp Tb N all o l k t h
       | false, false => stepOp Tb N all o l k t h
       | true, false => stepNo N all o l k t h
       | false, true => stepNo N all o l k t h
      | true, .val (.tuple _) => stepNo N all o l k t h
      | _, _ => none
     | none => none
    | none => none
 | .blk _ :: k, t, h => some (k, t, h, none)
 | .scp _ _ :: k, t, h => some (k, t, h, none)
 | .lp n c :: k, t, h => match n with
  | 0 => none
  | n + 1 => some (.code c :: .lp n c :: k, t, h, none)
 | _, _, _ => none
section
variable {P : Program} {F : Fr} {N : Nat} {Q : Post} {k k' : List It} {t t' : Tm} {h h' : Hp} {Tb : Tab} {s : Option Prop}
theorem dok_ok {d : Option Nat} (hd : dok N d = true) : ∀ s : Nat, d = some s → s < N := fun s e => by
 subst e
 exact blt_iff hd
theorem some4 {a a' : List It} {b b' : Tm} {c c' : Hp} {d d' : Option Prop} (e : (some (a, b, c, d) : Nxt) = some (a', b', c', d')) : a = a' ∧ b = b' ∧ c = c' ∧ d = d' := by cases e; exact ⟨rfl, rfl, rfl, rfl⟩
theorem stepOp_ok (hT : TabOk P Tb) {all : Array Oper} {o : Oper} {l : List Oper} (he : stepOp Tb N all o l k t h = some (k', t', h', s)) (hs : ∀ p, s = some p → p) :
  ∃ v, OpWp P F o t h v h' ∧ (∀ s : Nat, o.dst = some s → s < N) ∧ k' = .ops all l :: k ∧ t' = upd t o.dst v := by
 unfold stepOp at he
 split at he <;> try (cases he; done)
 split at he <;> try (cases he; done)
 rename_i _ hd _ v h2 s2 ha
 have hd' := dok_ok hd
 split at he
 ·rename_i ho
  obtain ⟨rfl, rfl, rfl, rfl⟩ := some4 he
  exact ⟨v, ax_ok hT o.op ha hs, hd', rfl, by rw [ho]; rfl⟩
 ·rename_i ho
  obtain ⟨rfl, rfl, rfl, rfl⟩ := some4 he
  exact ⟨v, ax_ok hT o.op ha hs, hd', rfl, by rw [ho]; rfl⟩
theorem stepNo_ok {all : Array Oper} {o : Oper} {l : List Oper} (he : stepNo N all o l k t h = some (k', t', h', s)) :
  (∀ s : Nat, o.dst = some s → s < N) ∧ k' = .ops all l :: k ∧ t' = upd t o.dst (.val undef) ∧ h' = h := by
 unfold stepNo at he
 split at he
 ·split at he <;> try (cases he; done)
  rename_i ho _ hb
  obtain ⟨rfl, rfl, rfl, rfl⟩ := some4 he
  exact ⟨fun s e => by rw [ho] at e; cases e; exact blt_iff hb, rfl, by rw [ho]; rfl, rfl⟩
 ·rename_i ho
  obtain ⟨rfl, rfl, rfl, rfl⟩ := some4 he
  exact ⟨fun s e => (by rw [ho] at e; cases e), rfl, by rw [ho]; rfl, rfl⟩
theorem step_ok (hT : TabOk P Tb) (he : step Tb N k t h = some (k', t', h', s)) (hs : ∀ p, s = some p → p) (H : Good P F N Q k' t' h') : Good P F N Q k t h := by
 unfold step at he
 split at he <;> try (cases he; done)
 ·split at he <;> try (cases he; done)
  ·obtain ⟨rfl, rfl, rfl, rfl⟩ := some4 he; exact good_seq H
  ·obtain ⟨rfl, rfl, rfl, rfl⟩ := some4 he; exact good_skip H
  ·obtain ⟨rfl, rfl, rfl, rfl⟩ := some4 he; exact good_label H
  ·split at he <;> try (cases he; done)
   obtain ⟨rfl, rfl, rfl, rfl⟩ := some4 he; exact good_region H
  ·obtain ⟨rfl, rfl, rfl, rfl⟩ := some4 he; exact good_block H
  ·split at he <;> try (cases he; done)
   rename_i hp
   obtain ⟨rfl, rfl, rfl, rfl⟩ := some4 he; exact good_exit hp H
  ·split at he <;> try (cases he; done)
   rename_i b hb
   split at he
   ·obtain ⟨rfl, rfl, rfl, rfl⟩ := some4 he; exact good_cond hb (fun _ => H) (fun e => by cases e)
   ·obtain ⟨rfl, rfl, rfl, rfl⟩ := some4 he; exact good_cond hb (fun e => by cases e) (fun _ => H)
 ·rename_i all l0 k0
  split at he <;> try (cases he; done)
  ·obtain ⟨rfl, rfl, rfl, rfl⟩ := some4 he; exact good_opsEnd H
  ·split at he
   ·rename_i hg
    obtain ⟨v, h1, h2, rfl, rfl⟩ := stepOp_ok hT he hs
    exact good_op hg h1 h2 H
   ·split at he <;> try (cases he; done)
    split at he <;> try (cases he; done)
    split at he <;> try (cases he; done)
    rotate_left
    ·rename_i _ o l _ j b hg _ oj hj _ sj hd _ _ u hN hb
     rw [nthO_eq] at hj
     have hj' : all[j]? = some oj := by rw [← Array.getElem?_toList]; exact hj
     obtain ⟨h1, rfl, rfl, rfl⟩ := stepNo_ok he
     exact good_opUn hg (by unfold guardA; rw [hj']; simp only [hd]; exact hb) (fun o2 s2 e1 e2 => by rw [hj'] at e1; cases e1; rw [hd] at e2; cases e2; exact blt_iff hN) h1 H
    rename_i _ o l _ j b hg _ oj hj _ sj hd _ _ b' hN hb
    rw [nthO_eq] at hj
    have hj' : all[j]? = some oj := by rw [← Array.getElem?_toList]; exact hj
    have hy : guardA all t j = .val (.bool b') := by unfold guardA; rw [hj']; simp only [hd]; exact hb
    have hNj : ∀ (o : Oper) (s : Nat), all[j]? = some o → o.dst = some s → s < N := fun o2 s2 e1 e2 => by
     rw [hj'] at e1; cases e1; rw [hd] at e2; cases e2; exact blt_iff hN
    split at he
    ·obtain ⟨v, h1, h2, rfl, rfl⟩ := stepOp_ok hT he hs
     exact good_opYes hg hy hNj h1 h2 H
    ·obtain ⟨v, h1, h2, rfl, rfl⟩ := stepOp_ok hT he hs
     exact good_opYes hg hy hNj h1 h2 H
    ·obtain ⟨h1, rfl, rfl, rfl⟩ := stepNo_ok he
     exact good_opNo hg hy rfl hNj h1 H
    ·obtain ⟨h1, rfl, rfl, rfl⟩ := stepNo_ok he
     exact good_opNo hg hy rfl hNj h1 H
 ·obtain ⟨rfl, rfl, rfl, rfl⟩ := some4 he; exact good_blkEnd H
 ·obtain ⟨rfl, rfl, rfl, rfl⟩ := some4 he; exact good_scpEnd H
 ·split at he <;> try (cases he; done)
  obtain ⟨rfl, rfl, rfl, rfl⟩ := some4 he; exact good_lp H
theorem st0 (hT : TabOk P Tb) (he : step Tb N k t h = some (k', t', h', none)) (H : Good P F N Q k' t' h') : Good P F N Q k t h := step_ok hT he (fun p e => by cases e) H
theorem st1 (hT : TabOk P Tb) {p : Prop} (he : step Tb N k t h = some (k', t', h', some p)) (hp : p) (H : Good P F N Q k' t' h') : Good P F N Q k t h := step_ok hT he (fun q e => by cases e; exact hp) H
end
end Go.Proofs.YthjldemjipnmdaaGreatDoor.Sx
namespace Go.Proofs.YthjldemjipnmdaaGreatDoor.Sx
open Go.RowKit
def Sub (x y : AV) : Prop := ∀ (w : World) (r : Rho) (M : Cond) (V : Value), VR w x r M V → VR w y r M V
def SubL (x y : AL) : Prop := ∀ (w : World) (one : Bool) (r : Rho) (M : Cond) (V : List Value), VRL w x one r M V → VRL w y one r M V
theorem Sub.refl (x : AV) : Sub x x := fun _ _ _ _ h => h
theorem Sub.of_eq {x y : AV} (h : x = y) : Sub x y := h ▸ Sub.refl x
theorem SubL.refl (x : AL) : SubL x x := fun _ _ _ _ _ h => h
theorem Sub.any (x : AV) : Sub x .any := fun _ _ _ _ _ => by unfold VR; trivial
theorem SubL.cons {x y : AV} {l m : AL} (h : Sub x y) (hl : SubL l m) : SubL (.cons x l) (.cons y m) := fun w one r M V hv => by
 cases V with
 | nil => unfold VRL at hv; exact hv.elim
 | cons U us => unfold VRL at *; exact ⟨hv.1, h _ _ _ _ hv.2.1, hl _ _ _ _ _ hv.2.2⟩
theorem Sub.agg {l m : AL} (h : SubL l m) : Sub (.agg l) (.agg m) := fun w r M V hv => by
 unfold VR at *; obtain ⟨a, e, hv⟩ := hv; exact ⟨a, e, h _ _ _ _ _ hv⟩
theorem Sub.tup {l m : AL} (h : SubL l m) : Sub (.tup l) (.tup m) := fun w r M V hv => by
 unfold VR at *; obtain ⟨a, e, hv⟩ := hv; exact ⟨a, e, h _ _ _ _ _ hv⟩
theorem Sub.im {sz n n' : Nat} {els els' : Nat → AL} (hn : n = n') (h : ∀ i, i < n → els i = els' i) : Sub (.im sz n els) (.im sz n' els') := fun w r M V hv => by
 subst hn
 unfold VR at *
 rcases hv with hv | ⟨b, off, cap, e, hc, h1, h2, hel⟩
 ·exact .inl hv
 ·refine .inr ⟨b, off, cap, e, hc, h1, h2, fun i hi => ?_⟩
  obtain ⟨Us, a1, a2, a3⟩ := hel i hi
  exact ⟨Us, a1, a2, by rw [← h i hi]; exact a3⟩
theorem Sub.nilIm {sz : Nat} {els : Nat → AL} : Sub (.val (.slice none 0 0)) (.im sz 0 els) := fun w r M V hv => by
 unfold VR at *; exact .inl ⟨rfl, hv⟩
mutual
def frzA (h : Hp) : AV → AV
 | .own g => match getH h g with
  | some (.row _ sz n els) => .im sz n els
  | _ => .any
 | .ptr _ _ => .any
 | .pown _ _ _ _ => .any
 | .agg cs => .agg (frzL h cs)
 | .tup cs => .tup (frzL h cs)
 | .fn f cs => .fn f (frzL h cs)
 | x => x
def frzL (h : Hp) : AL → AL
 | .nil => .nil
 | .cons x l => .cons (frzA h x) (frzL h l)
end
section
variable {P : Program} {F : Fr} {N : Nat} {Q : Post} {k k' : List It} {t t' : Tm} {h h' : Hp} {Tb : Tab}
theorem HR.own_im {r : Rho} {w : World} (H : HR F r h w) {g : Nat} {T sz n : Nat} {els : Nat → AL} (hg : getH h g = some (.row T sz n els)) {V : Value} (hV : r g = some V) : VR w (.im sz n els) r0 F.M0 V := by
 obtain ⟨V', hV', h1⟩ := H.freeze hg
 rw [hV] at hV'
 obtain rfl := Option.some.inj hV'
 exact VR.mono (Nat.le_refl _) (fun k _ hm => ⟨rfl, fun h => hm (.inl h)⟩) _ (fun _ _ h => h) h1
section
variable {r : Rho} {w : World} {M M' : Cond}
mutual
theorem frz_okM (hO : ∀ (g T sz n : Nat) (els : Nat → AL) (V : Value), getH h g = some (.row T sz n els) → r g = some V → VR w (.im sz n els) r0 M' V) (hM : ∀ k, ¬ M k → ¬ M' k) : ∀ (x : AV) {V : Value}, VR w x r M V → VR w (frzA h x) r0 M' V
 | .any, _, _ => by unfold frzA VR; trivial
 | .val _, _, hv => by unfold frzA; unfold VR at *; exact hv
 | .ptr _ _, _, _ => by unfold frzA VR; trivial
 | .pown _ _ _ _, _, _ => by unfold frzA VR; trivial
 | .own g, V, hv => by
  unfold VR at hv
  unfold frzA
  split
  ·rename_i hg
   exact hO _ _ _ _ _ _ hg hv.1
  ·unfold VR; trivial
 | .im _ _ _, _, hv => by
  unfold frzA
  exact VR.closed _ rfl (VR.mono (Nat.le_refl _) (fun k _ hm => ⟨rfl, hM k hm⟩) _ (fun _ _ h => h) hv)
 | .pim _, _, hv => by
  unfold frzA
  exact VR.closed _ rfl (VR.mono (Nat.le_refl _) (fun k _ hm => ⟨rfl, hM k hm⟩) _ (fun _ _ h => h) hv)
 | .agg cs, _, hv => by unfold frzA; unfold VR at *; obtain ⟨a, e, hv⟩ := hv; exact ⟨a, e, frzL_okM hO hM cs hv⟩
 | .tup cs, _, hv => by unfold frzA; unfold VR at *; obtain ⟨a, e, hv⟩ := hv; exact ⟨a, e, frzL_okM hO hM cs hv⟩
 | .fn _ cs, _, hv => by unfold frzA; unfold VR at *; obtain ⟨a, e, hv⟩ := hv; exact ⟨a, e, frzL_okM hO hM cs hv⟩
theorem frzL_okM (hO : ∀ (g T sz n : Nat) (els : Nat → AL) (V : Value), getH h g = some (.row T sz n els) → r g = some V → VR w (.im sz n els) r0 M' V) (hM : ∀ k, ¬ M k → ¬ M' k) : ∀ (l : AL) {one : Bool} {Us : List Value}, VRL w l one r M Us → VRL w (frzL h l) one r0 M' Us
 | .nil, _, [], _ => by have _ := hO; have _ := hM; unfold frzL VRL; trivial
 | .nil, _, _ :: _, hv => by unfold VRL at hv; exact hv.elim
 | .cons _ _, _, [], hv => by unfold VRL at hv; exact hv.elim
 | .cons x l, _, _ :: _, hv => by
  unfold frzL
  unfold VRL at *
  exact ⟨hv.1, frz_okM hO hM x hv.2.1, frzL_okM hO hM l hv.2.2⟩
end
end
theorem frz_ok {r : Rho} {w : World} (H : HR F r h w) (x : AV) {V : Value} (hv : VR w x r (Mut F.M0 r h) V) : VR w (frzA h x) r0 F.M0 V :=
 frz_okM (fun _ _ _ _ _ _ hg hV => H.own_im hg hV) (fun _ hm h => hm (.inl h)) x hv
def resL (Tb : Tab) (t : Tm) (h : Hp) : List ResultVar → Option AL
 | [] => some .nil
 | .tmp s :: rs => match resL Tb t h rs with
  | some l => some (.cons (getT t s) l)
  | none => none
 | .cell p T :: rs => match getT t p, lookT Tb T with
  | .ptr g 0, some y => match getH h g with
   | some (.box _ cs) => match Nat.ble (0 + y.size) cs.len, Nat.blt 0 y.size, resL Tb t h rs with
    | true, true, some l => some (.cons (partA y cs 0) l)
    | _, _, _ => none
   | _ => none
  | _, _ => none
theorem resL_ok (hT : TabOk P Tb) {r : Rho} {w : World} {a : Act} (H : HR F r h w) (ht : TR w r (Mut F.M0 r h) t a) (f : ResultVar → Sem Value) (hf1 : ∀ s, f (.tmp s) = pure (a.tmps.getD s undef)) (hf2 : ∀ x T, f (.cell x T) = do loadVar T (← asAddr (a.tmps.getD x undef))) : ∀ (rs : List ResultVar) (l : AL), resL Tb t h rs = some l →
  ∃ Vs : List Value, (rs.mapM f).run P w = .ok Vs w ∧ VRL w l false r (Mut F.M0 r h) Vs
 | [], l, he => by
  unfold resL at he
  obtain rfl := Option.some.inj he
  exact ⟨[], by simp, by unfold VRL; trivial⟩
 | .tmp s :: rs, l, he => by
  unfold resL at he
  split at he <;> try (cases he; done)
  rename_i l' hl
  obtain rfl := Option.some.inj he
  obtain ⟨Vs, h1, h2⟩ := resL_ok hT H ht f hf1 hf2 rs l' hl
  refine ⟨a.tmps.getD s undef :: Vs, ?_, by unfold VRL; exact ⟨(fun h => by cases h), ht s, h2⟩⟩
  rw [List.mapM_cons, hf1]
  simp only [Sem.run_bind, Sem.run_pure, Result.andThen, h1]
 | .cell p T :: rs, l, he => by
  unfold resL at he
  split at he <;> try (cases he; done)
  split at he <;> try (cases he; done)
  split at he <;> try (cases he; done)
  rename_i g y hp hy _ T' cs hg _ _ _ l' h1 h2 hl
  obtain rfl := Option.some.inj he
  obtain ⟨Vs, k1, k2⟩ := resL_ok hT H ht f hf1 hf2 rs l' hl
  have hv := ht p
  rw [hp] at hv
  obtain ⟨b, o, Us, e1, e2, e3⟩ := deref_cells H hv (cs := cs) (j := 0) (by simp only [derefA, hg]) (fun g' sz i j e => by cases e)
  have hlen := e3.length
  have hyT := hT _ _ hy
  have hb1 := Nat.le_of_ble_eq_true h1
  have hb2 := blt_iff h2
  have key : ∃ U, (loadVar T ⟨b, o, none⟩).run P w = .ok U w ∧ VR w (partA y cs 0) r (Mut F.M0 r h) U := by
   unfold partA
   cases ea : y.isAgg with
   | true =>
    have hl := run_loadCells_list (P := P) w ⟨b, o, none⟩ (Us.take y.size) (fun k U hk => by
     rw [add_addr]
     refine e2 k U ?_
     rw [List.drop_zero]
     rw [List.getElem?_take] at hk
     split at hk
     ·exact hk
     ·cases hk)
    have hlen2 : (Us.take y.size).length = y.size := by rw [List.length_take]; omega
    rw [hlen2] at hl
    refine ⟨.agg (Us.take y.size).toArray, by simp [loadVar, hyT.run_isAgg, ea, hyT.run_size, hl], ?_⟩
    unfold VR
    exact ⟨_, rfl, by have := e3.take y.size; cases cs <;> simpa [dropL] using this⟩
   | false =>
    obtain ⟨U, g2, _, g3⟩ := e3.get 0 (by omega)
    have hU := e2 0 U (by simpa using g2)
    rw [Nat.add_zero] at hU
    exact ⟨U, by simp [loadVar, hyT.run_isAgg, ea, load, Sem.run, hU], g3⟩
  obtain ⟨U, u1, u2⟩ := key
  refine ⟨U :: Vs, ?_, by unfold VRL; exact ⟨(fun h => by cases h), u2, k2⟩⟩
  rw [List.mapM_cons, hf2]
  simp only [Sem.run_bind, Sem.run_pure, Result.andThen, e1, asAddr, u1, k1]
def resA : AL → AV
 | .cons x .nil => x
 | l => .tup l
def resF (tm : Array Value) : ResultVar → Sem Value
 | .tmp s => pure (tm.getD s undef)
 | .cell x T => do loadVar T (← asAddr (tm.getD x undef))
theorem results_ok (hT : TabOk P Tb) {fn : Func} {r : Rho} {w : World} {a : Act} (H : HR F r h w) (ht : TR w r (Mut F.M0 r h) t a) {l : AL} (hl : resL Tb t h fn.results.toList = some l) : ∃ V, (results fn a.tmps).run P w = .ok V w ∧ VR w (resA l) r (Mut F.M0 r h) V := by
 obtain ⟨Vs, h1, h2⟩ := resL_ok hT H ht (resF a.tmps) (fun _ => rfl) (fun _ _ => rfl) fn.results.toList l hl
 have e0 : results fn a.tmps = (do let vs ← fn.results.mapM (resF a.tmps); pure (if h : vs.size = 1 then vs[0] else .tuple vs)) := rfl
 rw [e0, Array.mapM_eq_mapM_toList]
 have hlen := h2.length
 simp only [map_eq_pure_bind, Sem.run_bind, h1, Result.andThen, Sem.run_pure]
 refine ⟨_, rfl, ?_⟩
 unfold resA
 split
 ·rename_i x
  match Vs, h2 with
  | [U], h2 =>
   unfold VRL at h2
   simpa using h2.2.1
  | [], h2 => unfold VRL at h2; exact h2.elim
  | _ :: _ :: _, h2 => unfold VRL at h2; have := h2.2.2; unfold VRL at this; exact this.elim
 ·rename_i hne
  have hn1 : ¬ Vs.toArray.size = 1 := by
   intro e
   match l, hlen with
   | .nil, hlen => simp [AL.len] at hlen; rw [hlen] at e; simp at e
   | .cons x .nil, _ => exact hne x rfl
   | .cons x (.cons y m), hlen => simp [AL.len] at hlen e; omega
  rw [dif_neg hn1]
  unfold VR
  exact ⟨_, rfl, by simpa using h2⟩
end
end Go.Proofs.YthjldemjipnmdaaGreatDoor.Sx
namespace Go.Proofs.YthjldemjipnmdaaGreatDoor.Sx
open Go.RowKit
def AC (P : Program) (f : FuncId) (args : AL) (res : AV) : Prop := ∀ (w : World) (M : Cond) (Vs : List Value), MOk w M → VRL w args false r0 M Vs →
 Calls P f Vs.toArray w (fun e w' => ∃ V, e = .returned V ∧ VR w' res r0 M V ∧ Below w.heap.size w w')
theorem AC.sub {P : Program} {f : FuncId} {args : AL} {res res' : AV} (h : AC P f args res) (hs : Sub res res') : AC P f args res' := fun w M Vs hM hv =>
 (h w M Vs hM hv).mono fun _ _ ⟨V, he, hV, hb⟩ => ⟨V, he, hs _ _ _ _ hV, hb⟩
theorem AC.args {P : Program} {f : FuncId} {args args' : AL} {res : AV} (h : AC P f args res) (hs : SubL args' args) : AC P f args' res := fun w M Vs hM hv => h w M Vs hM (hs _ _ _ _ _ hv)
def Ent (P : Program) (f : FuncId) : Prop := ∀ (args : Array Value) (w : World), (callFunc f args).run P w = .ok (.enter f args) w
theorem Ent.of {P : Program} {f : FuncId} {fn : Func} (hf : P.funcs[f]? = some fn) (hb : fn.body.isNone = false) (hn : (fn.name == "runtime.NumGoroutine") = false) : Ent P f := fun args w => by
 have h1 : ¬ fn.name = "runtime.NumGoroutine" := by simpa using hn
 have h2 : ¬ fn.body = none := by intro e; rw [e] at hb; cases hb
 simp [callFunc, hf, h1, h2]
def argT : Nat → AL → Tm
 | _, .nil => []
 | i, .cons x l => (i, x) :: argT (i + 1) l
def retQ (P : Program) (F : Fr) (fn : Func) (res : AV) : Post := bodyPost P fn (fun e w' => ∃ V, e = .returned V ∧ VR w' res r0 F.M0 V ∧ Below F.w0.heap.size F.w0 w')
section
variable {P : Program} {F : Fr} {N : Nat} {Q : Post} {k k' : List It} {t t' : Tm} {h h' : Hp} {Tb : Tab}
theorem TR_args {w : World} {r : Rho} {M : Cond} : ∀ (l : AL) (Vs : List Value) (i : Nat), VRL w l false r M Vs → ∀ s, VR w (getT (argT i l) s) r M (if i ≤ s then (Vs[s - i]?).getD undef else undef)
 | .nil, [], i, _, s => by unfold argT getT VR; trivial
 | .nil, _ :: _, _, hv, _ => by unfold VRL at hv; exact hv.elim
 | .cons _ _, [], _, hv, _ => by unfold VRL at hv; exact hv.elim
 | .cons x l, V :: Vs, i, hv, s => by
  unfold VRL at hv
  unfold argT
  rw [getT_cons]
  by_cases e : i = s
  ·subst e
   rw [if_pos rfl, if_pos (Nat.le_refl _), Nat.sub_self]
   exact hv.2.1
  ·rw [if_neg e]
   have := TR_args l Vs (i + 1) hv.2.2 s
   by_cases hle : i ≤ s
   ·rw [if_pos hle]
    rw [if_pos (by omega)] at this
    rw [show s - i = (s - (i + 1)) + 1 by omega]
    exact this
   ·rw [if_neg hle]
    rw [if_neg (by omega)] at this
    exact this
def argK {α : Sort _} : Nat → AL → (Tm → α) → α
 | _, .nil, k => k []
 | i, .cons x l, k => fcA x fun x => argK (i + 1) l fun t => k ((i, x) :: t)
theorem argK_eq {α : Sort _} : ∀ (i : Nat) (l : AL) (k : Tm → α), argK i l k = k (argT i l)
 | _, .nil, k => rfl
 | i, .cons x l, k => by unfold argK argT; rw [fcA_eq, argK_eq]
theorem AC.enter {f : FuncId} {fn : Func} {c : Code} {args : AL} {res : AV} {t0 : Tm} (hf : P.funcs[f]? = some fn) (hN : fn.ntmps = N) (hb : fn.body = some c) (hl : Nat.ble args.len N = true) (ht0 : argK 0 args some = some t0)
  (H : ∀ F : Fr, ((F.X = fun _ => False) ∧ F.R0 = r0) → Good P F N (retQ P F fn res) [.code c] t0 []) : AC P f args res := by
 rw [argK_eq] at ht0
 obtain rfl := Option.some.inj ht0
 have hl := Nat.le_of_ble_eq_true hl
 intro w M Vs hM hv
 have hlen := hv.length
 refine calls_of_wp hf hb ?_
 refine H ⟨w, fun _ => False, M, r0⟩ ⟨rfl, rfl⟩ _ w ⟨r0, ?_, ?_, ?_, rfl⟩
 ·exact ⟨(fun g => rfl), (fun g o V h1 => by cases h1), (fun g g' o o' V V' b h1 => by cases h1), (fun g o V b h1 => by cases h1), rfl, rfl, rfl, Nat.le_refl _, (fun k _ _ => rfl), ⟨fun b hb => ⟨hM.1 b hb, fun h => h⟩, hM.2, fun _ h => h.elim⟩, (fun _ _ e => by cases e)⟩
 ·have hmono : ∀ s, VR w (getT (argT 0 args) s) r0 M (if 0 ≤ s then (Vs[s - 0]?).getD undef else undef) := TR_args args Vs 0 hv
  intro s
  have hs := hmono s
  rw [if_pos (Nat.zero_le _), Nat.sub_zero] at hs
  have e : ((Vs.toArray ++ Array.replicate (fn.ntmps - Vs.toArray.size) undef).getD s undef) = (Vs[s]?).getD undef := by
   rw [Array.getD_eq_getD_getElem?, Array.getElem?_append]
   split
   ·simp
   ·rename_i hlt
    rw [List.getElem?_eq_none (by simpa using hlt)]
    rw [Array.getElem?_replicate]
    split <;> rfl
  show VR w (getT (argT 0 args) s) r0 (Mut M r0 []) _
  rw [e]
  refine VR.mono (Nat.le_refl _) (fun k _ hm => ⟨rfl, ?_⟩) _ (fun _ _ h => h) hs
  rintro (hm' | ⟨g, o, V, h1, _⟩)
  ·exact hm hm'
  ·cases h1
 ·simp; omega
theorem QS_ret : ∀ (k : List It) {a : Act} {w : World}, Q .ret a w → QS P F N Q k .ret a w
 | [], _, _, h => h
 | .code _ :: k, _, _, h => QS_ret k h
 | .ops _ _ :: k, _, _, h => QS_ret k h
 | .blk _ :: k, _, _, h => QS_ret k h
 | .inv _ :: k, _, _, h => QS_ret k h
 | .scp _ _ :: k, _, _, h => QS_ret k h
 | .lp n _ :: k, a, w, h => by
  have := QS_ret (a := a) (w := w) k h
  cases n <;> exact this
mutual
def dcA {α : Sort _} : AV → (AV → α) → α
 | .agg cs, k => dcL cs fun cs => k (.agg cs)
 | .tup cs, k => dcL cs fun cs => k (.tup cs)
 | .fn f cs, k => dcL cs fun cs => k (.fn f cs)
 | .any, k => k .any
 | .val v, k => k (.val v)
 | .ptr g j, k => k (.ptr g j)
 | .own g, k => k (.own g)
 | .pown g sz i j, k => k (.pown g sz i j)
 | .im sz n els, k => k (.im sz n els)
 | .pim cs, k => k (.pim cs)
def dcL {α : Sort _} : AL → (AL → α) → α
 | .nil, k => k .nil
 | .cons x l, k => dcA x fun x => dcL l fun l => k (.cons x l)
end
mutual
theorem dcA_eq {α : Sort _} : ∀ (x : AV) (k : AV → α), dcA x k = k x
 | .agg cs, k => by unfold dcA; rw [dcL_eq]
 | .tup cs, k => by unfold dcA; rw [dcL_eq]
 | .fn f cs, k => by unfold dcA; rw [dcL_eq]
 | .any, k => by unfold dcA; rfl
 | .val v, k => by unfold dcA; rfl
 | .ptr g j, k => by unfold dcA; rfl
 | .own g, k => by unfold dcA; rfl
 | .pown g sz i j, k => by unfold dcA; rfl
 | .im sz n els, k => by unfold dcA; rfl
 | .pim cs, k => by unfold dcA; rfl
theorem dcL_eq {α : Sort _} : ∀ (l : AL) (k : AL → α), dcL l k = k l
 | .nil, k => by unfold dcL; rfl
 | .cons x l, k => by unfold dcL; rw [dcA_eq, dcL_eq]
end
def retA (Tb : Tab) (t : Tm) (h : Hp) (rs : List ResultVar) : Option AV := match resL Tb t h rs with
 | some l => dcA (frzA h (resA l)) some
 | none => none
theorem ret_core (hT : TabOk P Tb) {fn : Func} {res v : AV} (hl : retA Tb t h fn.results.toList = some v) (hs : Sub v res) (hX : F.X = fun _ => False) {a : Act} {w : World} (hst : ST F N t h a w) : retQ P F fn res .ret a w := by
 obtain ⟨r, hr, ht, hn, hd⟩ := hst
 unfold retA at hl
 split at hl <;> try (cases hl; done)
 rename_i l hl'
 rw [dcA_eq] at hl
 obtain rfl := Option.some.inj hl
 obtain ⟨V, h1, h2⟩ := results_ok hT hr ht hl'
 refine ⟨hd, V, h1, V, rfl, hs _ _ _ _ (frz_ok hr _ h2), hr.os, hr.tape, hr.output, hr.size, fun k hk => hr.frame k hk (by rw [hX]; exact fun h => h)⟩
theorem good_ret (hT : TabOk P Tb) {fn : Func} {res v : AV} (hX : (F.X = fun _ => False) ∧ F.R0 = r0) (hl : retA Tb t h fn.results.toList = some v) (hs : Sub v res) : Good P F N (retQ P F fn res) (.code .ret :: k) t h := fun _ _ hst =>
 wp_ret (QS_ret k (ret_core hT hl hs hX.1 hst))
theorem good_end (hT : TabOk P Tb) {fn : Func} {res v : AV} (hX : (F.X = fun _ => False) ∧ F.R0 = r0) (hl : retA Tb t h fn.results.toList = some v) (hs : Sub v res) : Good P F N (retQ P F fn res) [] t h := fun _ _ hst =>
 ret_core hT hl hs hX.1 hst
def appL : AL → AL → AL
 | .nil, m => m
 | .cons x l, m => .cons x (appL l m)
theorem VRL.app {w : World} {one : Bool} {r : Rho} {M : Cond} : ∀ {l m : AL} {Us Ws : List Value}, VRL w l one r M Us → VRL w m one r M Ws → VRL w (appL l m) one r M (Us ++ Ws)
 | .nil, _, [], _, _, h => h
 | .nil, _, _ :: _, _, h, _ => by unfold VRL at h; exact h.elim
 | .cons _ _, _, [], _, h, _ => by unfold VRL at h; exact h.elim
 | .cons x l, m, U :: us, ws, h, h2 => by
  unfold VRL at h
  unfold appL
  simp only [List.cons_append]
  unfold VRL
  exact ⟨h.1, h.2.1, VRL.app h.2.2 h2⟩
def argsA (t : Tm) (x : Operand) (args : List Operand) : Option (Nat × AL) := match ev t x with
 | .fn f caps => dcL (appL (opsL t args) caps) fun l => some (f, l)
 | _ => none
theorem args_ok {w : World} {r : Rho} {M : Cond} {a : Act} (ht : TR w r M t a) {x : Operand} {args : List Operand} {f : Nat} {l : AL} (he : argsA t x args = some (f, l)) : ∃ caps : Array Value, a.eval x = .func (.func f) #[] caps ∧ VRL w l false r M (args.map a.eval ++ caps.toList) := by
 unfold argsA at he
 split at he <;> try (cases he; done)
 rename_i f' caps hx
 rw [dcL_eq] at he
 cases he
 have hv := VR_ev ht x
 rw [hx] at hv
 unfold VR at hv
 obtain ⟨c, e, hv⟩ := hv
 exact ⟨c, e, VRL.app (opsL_vr ht args) hv⟩
def updK (N : Nat) (t : Tm) (d : Option Nat) (v : AV) : Option Tm := match d with
 | some s => match Nat.blt s N with
  | true => some ((s, v) :: t)
  | false => none
 | none => some t
theorem updK_ok {d : Option Nat} {v : AV} (he : updK N t d v = some t') : (∀ s : Nat, d = some s → s < N) ∧ t' = upd t d v := by
 unfold updK at he
 split at he
 ·split at he <;> try (cases he; done)
  rename_i hb
  cases he
  exact ⟨(fun s e => by cases e; exact blt_iff hb), rfl⟩
 ·cases he
  exact ⟨(fun s e => by cases e), rfl⟩
theorem call_wp {o : Oper} {c : Call} {x : Operand} {f : Nat} {args : AL} {res : AV} (ho : o.op = .call c) (hc : c.callee = .value x) (ha : argsA t x c.args.toList = some (f, args)) (hcl : clL args = true) (hE : Ent P f) (A : AC P f args res) : OpWp P F o t h res h := by
 intro r a w hr ht next Q hn
 obtain ⟨caps, e, hv⟩ := args_ok ht ha
 have hrun : (execOp a.eval o).run P w = .ok (.enter f ((c.args.map a.eval) ++ caps)) w := by
  have := hE (c.args.map a.eval ++ caps) w
  simp [execOp, ho, resolve, hc, e, Deferred.ofValue, invoke, this]
 unfold Oper.wp
 rw [hrun, Oper.upon_enter]
 have e2 : (c.args.map a.eval ++ caps) = (c.args.toList.map a.eval ++ caps.toList).toArray := by
  apply Array.ext'
  simp
 rw [e2]
 refine (A w (Mut F.M0 r h) _ hr.mok (VRL.closed _ hcl hv)).mono ?_
 rintro _ w' ⟨V, rfl, hV, hb⟩
 obtain ⟨h1, h2⟩ := hr.same hb
 exact hn V w' r h1 h2 hV.lift
theorem good_call {all : Array Oper} {o : Oper} {l : List Oper} {c : Call} {x : Operand} {f : Nat} {args : AL} {res : AV} (hg : o.guard = none) (ho : o.op = .call c) (hc : c.callee = .value x) (ha : argsA t x c.args.toList = some (f, args)) (hcl : clL args = true) (hE : Ent P f) (A : AC P f args res) (hN : updK N t o.dst res = some t')
  (H : Good P F N Q (.ops all l :: k) t' h) : Good P F N Q (.ops all (o :: l) :: k) t h := good_op hg (call_wp ho hc ha hcl hE A) (updK_ok hN).1 ((updK_ok hN).2 ▸ H)
theorem good_callG {all : Array Oper} {o oj : Oper} {l : List Oper} {c : Call} {x : Operand} {f : Nat} {args : AL} {res : AV} {j sj : Nat} {b : Bool} (hg : o.guard = some (j, b)) (hj : nthO all.toList j = some oj) (hd : oj.dst = some sj) (hsj : Nat.blt sj N = true) (hb : getT t sj = .val (.bool b)) (ho : o.op = .call c) (hc : c.callee = .value x) (ha : argsA t x c.args.toList = some (f, args)) (hcl : clL args = true) (hE : Ent P f) (A : AC P f args res) (hN : updK N t o.dst res = some t')
  (H : Good P F N Q (.ops all l :: k) t' h) : Good P F N Q (.ops all (o :: l) :: k) t h := by
 rw [nthO_eq] at hj
 have hj' : all[j]? = some oj := by rw [← Array.getElem?_toList]; exact hj
 exact good_opYes hg (by unfold guardA; rw [hj']; simp only [hd]; exact hb) (fun o2 s2 e1 e2 => by rw [hj'] at e1; cases e1; rw [hd] at e2; cases e2; exact blt_iff hsj) (call_wp ho hc ha hcl hE A) (updK_ok hN).1 ((updK_ok hN).2 ▸ H)
def Wk (F : Fr) (N : Nat) (t : Tm) (h : Hp) (t' : Tm) (h' : Hp) : Prop := ∀ a w, ST F N t h a w → ST F N t' h' a w
theorem good_weak (hw : Wk F N t h t' h') (H : Good P F N Q k t' h') : Good P F N Q k t h := fun a w hs => H a w (hw a w hs)
theorem good_inv {J : Tm → Hp → Prop} (hJ : J t' h') (hw : Wk F N t h t' h') : Good P F N Q (.inv J :: k) t h := fun a w hs => ⟨t', h', hJ, hw a w hs⟩
theorem good_loop {c : Code} (J : Nat → Tm → Hp → Prop) (n0 : Nat) (hJ : J n0 t' h') (hw : Wk F N t h t' h') (H : ∀ n t h, J n t h → Good P F N Q (.code c :: .inv (fun t' h' => ∃ m, m < n ∧ J m t' h') :: k) t h) : Good P F N Q (.code (.loop c) :: k) t h := fun a w hs => by
 refine wp_loop_ghost (fun n a w => ∃ t h, J n t h ∧ ST F N t h a w) n0 ⟨t', h', hJ, hw a w hs⟩ (fun n _ _ ⟨t1, h1, hJ1, hs1⟩ => ?_)
 refine wp_of_code (H n t1 h1 hJ1 _ _ hs1) (fun e a w he => ?_)
 cases e with
 | normal =>
  obtain ⟨t2, h2, ⟨m, hm, hJ2⟩, hs2⟩ := he
  exact ⟨m, hm, t2, h2, hJ2, hs2⟩
 | _ => exact he
theorem good_scope {c rest : Code} (l : Nat) (hf : findLabel c l = some rest) (J : Nat → Tm → Hp → Prop) (first : Good P F N Q (.code c :: .scp l (fun t' h' => ∃ m, J m t' h') :: k) t h)
  (pass : ∀ n t h, J n t h → Good P F N Q (.code rest :: .scp l (fun t' h' => ∃ m, m < n ∧ J m t' h') :: k) t h) : Good P F N Q (.code (.scope c) :: k) t h := fun a w hs => by
 refine wp_scope_jumps l (fun a w => ∃ n t h, J n t h ∧ ST F N t h a w) (fun a w => leastOf (fun n => ∃ t h, J n t h ∧ ST F N t h a w)) hf ?_ ?_
 ·refine wp_of_code (first a w hs) (fun e a w he => ?_)
  cases e with
  | goto l' =>
   obtain ⟨rfl, t1, h1, ⟨m, hJ⟩, hs1⟩ := he
   exact ⟨rfl, m, t1, h1, hJ, hs1⟩
  | _ => exact he
 ·rintro a w hI
  obtain ⟨t1, h1, hJ, hs1⟩ := (leastOf_spec hI).1
  refine wp_of_code (pass _ t1 h1 hJ _ _ hs1) (fun e a' w' he => ?_)
  cases e with
  | goto l' =>
   obtain ⟨rfl, t2, h2, ⟨m, hm, hJ2⟩, hs2⟩ := he
   exact ⟨rfl, ⟨m, t2, h2, hJ2, hs2⟩, Nat.lt_of_le_of_lt ((leastOf_spec ⟨m, t2, h2, hJ2, hs2⟩).2 m ⟨t2, h2, hJ2, hs2⟩) hm⟩
  | _ => exact he
mutual
def rfA (h : Hp) : AV → Bool
 | .ptr g _ => !freshH h g
 | .own g => !freshH h g
 | .pown g _ _ _ => !freshH h g
 | .agg cs => rfL h cs
 | .tup cs => rfL h cs
 | .fn _ cs => rfL h cs
 | _ => true
def rfL (h : Hp) : AL → Bool
 | .nil => true
 | .cons x l => rfA h x && rfL h l
end
def resR (r : Rho) (h : Hp) : Rho := fun g => if freshH h g = true then none else r g
mutual
theorem VR.res {w : World} {r : Rho} {M : Cond} : ∀ (x : AV) {V : Value}, rfA h x = true → VR w x r M V → VR w x (resR r h) M V
 | .any, _, _, hv => by unfold VR at *; trivial
 | .val _, _, _, hv => by unfold VR at *; exact hv
 | .ptr g _, _, hc, hv => by
  unfold VR at *; obtain ⟨b, h1, e⟩ := hv
  exact ⟨b, by unfold resR; rw [if_neg (by simpa [rfA] using hc)]; exact h1, e⟩
 | .own g, _, hc, hv => by
  unfold VR at *
  exact ⟨by unfold resR; rw [if_neg (by simpa [rfA] using hc)]; exact hv.1, hv.2⟩
 | .pown g _ _ _, _, hc, hv => by
  unfold VR at *; obtain ⟨b, n, c, h1, e⟩ := hv
  exact ⟨b, n, c, by unfold resR; rw [if_neg (by simpa [rfA] using hc)]; exact h1, e⟩
 | .im _ _ _, _, _, hv => by unfold VR at *; exact hv
 | .pim _, _, _, hv => by unfold VR at *; exact hv
 | .agg cs, _, hc, hv => by unfold VR at *; obtain ⟨a, e, hv⟩ := hv; exact ⟨a, e, VRL.res cs (by simpa [rfA] using hc) hv⟩
 | .tup cs, _, hc, hv => by unfold VR at *; obtain ⟨a, e, hv⟩ := hv; exact ⟨a, e, VRL.res cs (by simpa [rfA] using hc) hv⟩
 | .fn _ cs, _, hc, hv => by unfold VR at *; obtain ⟨a, e, hv⟩ := hv; exact ⟨a, e, VRL.res cs (by simpa [rfA] using hc) hv⟩
theorem VRL.res {w : World} {r : Rho} {M : Cond} : ∀ (l : AL) {one : Bool} {Us : List Value}, rfL h l = true → VRL w l one r M Us → VRL w l one (resR r h) M Us
 | .nil, _, [], _, _ => by unfold VRL; trivial
 | .nil, _, _ :: _, _, hv => by unfold VRL at hv; exact hv.elim
 | .cons _ _, _, [], _, hv => by unfold VRL at hv; exact hv.elim
 | .cons x l, _, _ :: _, hc, hv => by
  simp only [rfL, Bool.and_eq_true] at hc
  unfold VRL at *
  exact ⟨hv.1, VR.res x hc.1 hv.2.1, VRL.res l hc.2 hv.2.2⟩
end
def rfO (h : Hp) : MO → Bool
 | .box _ cs => rfL h cs
 | _ => true
def rfT (h : Hp) : Tm → Bool
 | [] => true
 | (_, v) :: t => rfA h v && rfT h t
def rfH (h : Hp) : Hp → Bool
 | [] => true
 | (_, o) :: l => rfO h o && rfH h l
theorem rfT_get : ∀ (t : Tm) (s : Nat), rfT h t = true → rfA h (getT t s) = true
 | [], _, _ => by unfold getT rfA; rfl
 | (s', v) :: t, s, hc => by
  simp only [rfT, Bool.and_eq_true] at hc
  rw [getT_cons]
  split
  ·exact hc.1
  ·exact rfT_get t s hc.2
theorem rfH_get : ∀ (l : Hp) (g : Nat) (o : MO), rfH h l = true → getH l g = some o → rfO h o = true
 | [], _, _, _, he => by cases he
 | (g', o') :: l, g, o, hc, he => by
  simp only [rfH, Bool.and_eq_true] at hc
  rw [getH_cons] at he
  split at he
  ·cases he; exact hc.1
  ·exact rfH_get l g o hc.2 he
def SubO : MO → MO → Prop
 | _, .dead => True
 | .box T cs, .box T' cs' => T = T' ∧ SubL cs cs'
 | .row T sz n els, .row T' sz' n' els' => T = T' ∧ sz = sz' ∧ n = n' ∧ ∀ i, i < n → els i = els' i
 | .raw o, .raw o' => o = o'
 | _, _ => False
theorem SubO.refl (o : MO) : SubO o o := by cases o <;> simp [SubO]; exact SubL.refl _
theorem Wk.of (ht : ∀ s, Sub (getT t s) (getT t' s)) (hh : ∀ g o', getH h' g = some o' → ∃ o, getH h g = some o ∧ SubO o o') (hc : rfT h' t' = true) (hc2 : rfH h' h' = true) (hp : ∀ g V, F.R0 g = some V → freshH h' g = false) : Wk F N t h t' h' := by
 rintro a w ⟨r, hr, htr, hn, hd⟩
 have hfr : ∀ g, freshH h' g = true ↔ getH h' g = none := fun g => by unfold freshH; cases getH h' g <;> simp
 have hM : ∀ k, Mut F.M0 (resR r h') h' k → Mut F.M0 r h k := by
  rintro k (hm | ⟨g, o', V, h1, h2, h3, h4⟩)
  ·exact .inl hm
  ·obtain ⟨o, h5, h6⟩ := hh g o' h1
   unfold resR at h3
   split at h3
   ·cases h3
   ·refine .inr ⟨g, o, V, h5, ?_, h3, h4⟩
    cases o' <;> cases o <;> simp_all [SubO, MO.live]
 have hm : ∀ {x : AV} {V : Value}, VR w x r (Mut F.M0 r h) V → VR w x r (Mut F.M0 (resR r h') h') V := fun hv => VR.mono (Nat.le_refl _) (fun k _ hk => ⟨rfl, fun h => hk (hM k h)⟩) _ (fun _ _ h => h) hv
 have hml : ∀ {x : AL} {one : Bool} {r1 : Rho} {V : List Value}, VRL w x one r1 (Mut F.M0 r h) V → VRL w x one r1 (Mut F.M0 (resR r h') h') V := fun hv => VRL.mono (Nat.le_refl _) (fun k _ hk => ⟨rfl, fun h => hk (hM k h)⟩) _ (fun _ _ h => h) hv
 have hget : ∀ {g : Nat} {o' : MO} {V : Value}, getH h' g = some o' → resR r h' g = some V → ∃ o, getH h g = some o ∧ r g = some V ∧ SubO o o' := by
  intro g o' V h1 h2
  obtain ⟨o, h3, h4⟩ := hh g o' h1
  unfold resR at h2
  split at h2
  ·cases h2
  ·exact ⟨o, h3, h2, h4⟩
 have hlive : ∀ {o o' : MO}, SubO o o' → o'.live = true → o.live = true := by
  intro o o' h1 h2
  cases o <;> cases o' <;> simp_all [SubO, MO.live]
 refine ⟨resR r h', ⟨fun g => ?_, fun g o' V h1 h2 => ?_, fun g g' o1 o2 V1 V2 b h1 h2 l1 l2 h3 h4 h5 h6 => ?_, fun g o' V b h1 h2 h3 h4 => ?_, hr.os, hr.tape, hr.output, hr.size, hr.frame, hr.m0, fun g V e => by unfold resR; rw [if_neg (by rw [hp g V e]; simp)]; exact hr.pin g V e⟩, fun s => ?_, hn, hd⟩
 ·unfold resR
  by_cases e : freshH h' g = true
  ·rw [if_pos e, (hfr g).1 e]; rfl
  ·rw [if_neg e]
   cases ho : getH h' g with
   | none => exact (e ((hfr g).2 ho)).elim
   | some o' =>
    obtain ⟨o, h3, _⟩ := hh g o' ho
    have := hr.dom g
    rw [h3] at this
    exact this
 ·obtain ⟨o, h3, h4, h5⟩ := hget h1 h2
  have h6 := hr.objs g o V h3 h4
  have h7 := rfH_get _ _ _ hc2 h1
  cases o' with
  | dead => trivial
  | box T cs =>
   cases o <;> simp only [SubO] at h5
   obtain ⟨rfl, h5⟩ := h5
   obtain ⟨b, c, e, k1, k2⟩ := h6
   exact ⟨b, c, e, k1, VRL.res cs (by simpa [rfO] using h7) (hml (h5 _ _ _ _ _ k2))⟩
  | row T sz n els =>
   cases o <;> simp only [SubO] at h5
   obtain ⟨rfl, rfl, rfl, h5⟩ := h5
   obtain ⟨xs, k1, k2⟩ := h6
   refine ⟨xs, k1, fun i hi => ?_⟩
   obtain ⟨Us, a1, a2, a3⟩ := k2 i hi
   exact ⟨Us, a1, a2, by rw [← h5 i hi]; exact hml a3⟩
  | raw q =>
   cases o <;> simp only [SubO] at h5
   subst h5
   exact h6
 ·obtain ⟨p1, q1, e1, s1⟩ := hget h1 h3
  obtain ⟨p2, q2, e2, s2⟩ := hget h2 h4
  exact hr.sep _ _ _ _ _ _ b q1 q2 (hlive s1 l1) (hlive s2 l2) e1 e2 h5 h6
 ·obtain ⟨p1, q1, e1, s1⟩ := hget h1 h3
  exact hr.base _ _ _ b q1 (hlive s1 h2) e1 h4
 ·exact VR.res _ (rfT_get t' s hc) (hm (ht s _ _ _ _ (htr s)))
end
end Go.Proofs.YthjldemjipnmdaaGreatDoor.Sx
namespace Go.Proofs.YthjldemjipnmdaaGreatDoor.Sx
open Go.RowKit
def gslot : List It → Option Nat
 | .ops all (o :: _) :: _ => match o.guard with
  | some (j, _) => match nthO all.toList j with
   | some oj => oj.dst
   | none => none
  | none => none
 | .code (.cond (.tmp s) _ _) :: _ => some s
 | _ => none
section
variable {P : Program} {F : Fr} {N : Nat} {Q : Post} {k k' : List It} {t t' : Tm} {h h' : Hp} {Tb : Tab}
theorem good_set {b b' : Bool} (n : Nat) (hb : getT t n = .val (.bool b)) (e : b = b') (H : Good P F N Q k ((n, .val (.bool b')) :: t) h) : Good P F N Q k t h := by
 subst e
 intro a w hs
 obtain ⟨r, hr, ht, hn, hd⟩ := hs
 refine H a w ⟨r, hr, fun s => ?_, hn, hd⟩
 rw [getT_cons]
 split
 ·rename_i e2
  subst e2
  rw [← hb]; exact ht n
 ·exact ht s
theorem gT {p : Prop} [Decidable p] {n : Nat} (_hn : gslot k = some n) (hb : getT t n = .val (.bool (decide p))) (e : p) (H : Good P F N Q k ((n, .val (.bool true)) :: t) h) : Good P F N Q k t h := good_set n hb (decide_eq_true e) H
theorem gF {p : Prop} [Decidable p] {n : Nat} (_hn : gslot k = some n) (hb : getT t n = .val (.bool (decide p))) (e : ¬ p) (H : Good P F N Q k ((n, .val (.bool false)) :: t) h) : Good P F N Q k t h := good_set n hb (decide_eq_false e) H
theorem gS {p : Prop} [Decidable p] {n : Nat} (_hn : gslot k = some n) (hb : getT t n = .val (.bool (decide p))) (h1 : p → Good P F N Q k ((n, .val (.bool true)) :: t) h) (h2 : ¬ p → Good P F N Q k ((n, .val (.bool false)) :: t) h) : Good P F N Q k t h :=
 if e : p then gT _hn hb e (h1 e) else gF _hn hb e (h2 e)
theorem gNT {p : Prop} [Decidable p] {n : Nat} (_hn : gslot k = some n) (hb : getT t n = .val (.bool (!decide p))) (e : p) (H : Good P F N Q k ((n, .val (.bool false)) :: t) h) : Good P F N Q k t h := good_set n hb (by rw [decide_eq_true e]; rfl) H
theorem gNF {p : Prop} [Decidable p] {n : Nat} (_hn : gslot k = some n) (hb : getT t n = .val (.bool (!decide p))) (e : ¬ p) (H : Good P F N Q k ((n, .val (.bool true)) :: t) h) : Good P F N Q k t h := good_set n hb (by rw [decide_eq_false e]; rfl) H
theorem gNS {p : Prop} [Decidable p] {n : Nat} (_hn : gslot k = some n) (hb : getT t n = .val (.bool (!decide p))) (h1 : p → Good P F N Q k ((n, .val (.bool false)) :: t) h) (h2 : ¬ p → Good P F N Q k ((n, .val (.bool true)) :: t) h) : Good P F N Q k t h :=
 if e : p then gNT _hn hb e (h1 e) else gNF _hn hb e (h2 e)
theorem gB {b b' : Bool} {n : Nat} (_hn : gslot k = some n) (hb : getT t n = .val (.bool b)) (e : b = b') (H : Good P F N Q k ((n, .val (.bool b')) :: t) h) : Good P F N Q k t h := good_set n hb e H
theorem gBS {b : Bool} {n : Nat} (_hn : gslot k = some n) (hb : getT t n = .val (.bool b)) (h1 : b = true → Good P F N Q k ((n, .val (.bool true)) :: t) h) (h2 : b = false → Good P F N Q k ((n, .val (.bool false)) :: t) h) : Good P F N Q k t h := by
 cases e : b with
 | true => exact good_set n hb e (h1 e)
 | false => exact good_set n hb e (h2 e)
theorem gBN {b : Bool} {n : Nat} (_hn : gslot k = some n) (hb : getT t n = .val (.bool (!b))) (h1 : b = true → Good P F N Q k ((n, .val (.bool false)) :: t) h) (h2 : b = false → Good P F N Q k ((n, .val (.bool true)) :: t) h) : Good P F N Q k t h := by
 cases e : b with
 | true => exact good_set n hb (by rw [e]; rfl) (h1 e)
 | false => exact good_set n hb (by rw [e]; rfl) (h2 e)
end
end Go.Proofs.YthjldemjipnmdaaGreatDoor.Sx
namespace Go.Proofs.YthjldemjipnmdaaGreatDoor.Sx
open Go.RowKit
mutual
def fzA (g : Nat) (y : AV) : AV → AV
 | .own g' => match Nat.beq g g' with
  | true => y
  | false => .own g'
 | .agg cs => .agg (fzL g y cs)
 | .tup cs => .tup (fzL g y cs)
 | .fn f cs => .fn f (fzL g y cs)
 | x => x
def fzL (g : Nat) (y : AV) : AL → AL
 | .nil => .nil
 | .cons x l => .cons (fzA g y x) (fzL g y l)
end
def fzT {α : Sort _} (g : Nat) (y : AV) : Tm → (Tm → α) → α
 | [], k => k []
 | (s, v) :: t, k => dcA (fzA g y v) fun v => fzT g y t fun t => k ((s, v) :: t)
def fzH {α : Sort _} (g : Nat) (y : AV) : Hp → (Hp → α) → α
 | [], k => k []
 | (s, .box T cs) :: h, k => dcL (fzL g y cs) fun cs => fzH g y h fun h => k ((s, .box T cs) :: h)
 | (s, .dead) :: h, k => fzH g y h fun h => k ((s, .dead) :: h)
 | (s, .row T sz n els) :: h, k => fzH g y h fun h => k ((s, .row T sz n els) :: h)
 | (s, .raw o) :: h, k => fzH g y h fun h => k ((s, .raw o) :: h)
def fzO (g : Nat) (y : AV) : MO → MO
 | .box T cs => .box T (fzL g y cs)
 | o => o
theorem fzT_eq {α : Sort _} (g : Nat) (y : AV) : ∀ (t : Tm) (k : Tm → α), fzT g y t k = k (t.map fun p => (p.1, fzA g y p.2))
 | [], k => rfl
 | (s, v) :: t, k => by unfold fzT; rw [dcA_eq, fzT_eq g y t]; rfl
theorem fzH_eq {α : Sort _} (g : Nat) (y : AV) : ∀ (h : Hp) (k : Hp → α), fzH g y h k = k (h.map fun p => (p.1, fzO g y p.2))
 | [], k => rfl
 | (s, .box T cs) :: h, k => by unfold fzH; rw [dcL_eq, fzH_eq g y h]; rfl
 | (s, .dead) :: h, k => by unfold fzH; rw [fzH_eq g y h]; rfl
 | (s, .row T sz n els) :: h, k => by unfold fzH; rw [fzH_eq g y h]; rfl
 | (s, .raw o) :: h, k => by unfold fzH; rw [fzH_eq g y h]; rfl
theorem getT_map (f : AV → AV) (hf : f .any = .any) : ∀ (t : Tm) (s : Nat), getT (t.map fun p => (p.1, f p.2)) s = f (getT t s)
 | [], s => by simp [getT, hf]
 | (k, v) :: t, s => by
  simp only [List.map_cons]
  rw [getT_cons, getT_cons]
  split
  ·rfl
  ·exact getT_map f hf t s
theorem getH_map (f : MO → MO) : ∀ (t : Hp) (s : Nat), getH (t.map fun p => (p.1, f p.2)) s = (getH t s).map f
 | [], s => by simp [getH]
 | (k, v) :: t, s => by
  simp only [List.map_cons]
  rw [getH_cons, getH_cons]
  split
  ·rfl
  ·exact getH_map f t s
section
variable {w : World} {r : Rho} {M M' : Cond} {g : Nat} {y : AV}
mutual
theorem fz_ok (hg : ∀ V, r g = some V → VR w y r M' V) (hm : ∀ k, k < w.heap.size → ¬ M k → ¬ M' k) : ∀ (x : AV) {V : Value}, VR w x r M V → VR w (fzA g y x) r M' V
 | .own g', V, hv => by
  unfold VR at hv
  unfold fzA
  split
  ·rename_i e
   obtain rfl := Nat.eq_of_beq_eq_true e
   exact hg V hv.1
  ·unfold VR; exact hv
 | .any, _, hv => by unfold fzA VR; trivial
 | .val _, _, hv => by unfold fzA; unfold VR at *; exact hv
 | .ptr _ _, _, hv => by unfold fzA; unfold VR at *; exact hv
 | .pown _ _ _ _, _, hv => by unfold fzA; unfold VR at *; exact hv
 | .im _ _ _, _, hv => by unfold fzA; exact VR.mono (Nat.le_refl _) (fun k hk h => ⟨rfl, hm k hk h⟩) _ (fun _ _ h => h) hv
 | .pim _, _, hv => by unfold fzA; exact VR.mono (Nat.le_refl _) (fun k hk h => ⟨rfl, hm k hk h⟩) _ (fun _ _ h => h) hv
 | .agg cs, _, hv => by unfold fzA; unfold VR at hv ⊢; obtain ⟨a, e, hv⟩ := hv; exact ⟨a, e, fzL_ok hg hm cs hv⟩
 | .tup cs, _, hv => by unfold fzA; unfold VR at hv ⊢; obtain ⟨a, e, hv⟩ := hv; exact ⟨a, e, fzL_ok hg hm cs hv⟩
 | .fn _ cs, _, hv => by unfold fzA; unfold VR at hv ⊢; obtain ⟨a, e, hv⟩ := hv; exact ⟨a, e, fzL_ok hg hm cs hv⟩
theorem fzL_ok (hg : ∀ V, r g = some V → VR w y r M' V) (hm : ∀ k, k < w.heap.size → ¬ M k → ¬ M' k) : ∀ (l : AL) {one : Bool} {Us : List Value}, VRL w l one r M Us → VRL w (fzL g y l) one r M' Us
 | .nil, _, [], _ => by have _ := hg; have _ := hm; unfold fzL VRL; trivial
 | .nil, _, _ :: _, hv => by unfold VRL at hv; exact hv.elim
 | .cons _ _, _, [], hv => by unfold VRL at hv; exact hv.elim
 | .cons x l, _, _ :: _, hv => by
  unfold fzL
  unfold VRL at *
  exact ⟨hv.1, fz_ok hg hm x hv.2.1, fzL_ok hg hm l hv.2.2⟩
end
end
def frzSt (g : Nat) (t : Tm) (h : Hp) : Option (Tm × Hp) := match getH h g with
 | some (.row _ sz n els) => fzT g (.im sz n els) t fun t => fzH g (.im sz n els) h fun h => some (t, (g, .dead) :: h)
 | _ => none
section
variable {P : Program} {F : Fr} {N : Nat} {Q : Post} {k k' : List It} {t t' : Tm} {h h' : Hp} {Tb : Tab}
theorem good_freeze (g : Nat) (he : frzSt g t h = some (t', h')) (H : Good P F N Q k t' h') : Good P F N Q k t h := by
 unfold frzSt at he
 split at he <;> try (cases he; done)
 rename_i T sz n els hg
 rw [fzT_eq, fzH_eq] at he
 cases he
 rintro a w ⟨r, hr, ht, hn, hd⟩
 refine H a w ⟨r, ?_⟩
 obtain ⟨V, hV, hi⟩ := hr.freeze hg
 have hlive : ∀ o : MO, (fzO g (.im sz n els) o).live = o.live := fun o => by cases o <;> rfl
 have hgetH : ∀ {s : Nat} {o' : MO}, getH ((g, MO.dead) :: h.map fun p => (p.1, fzO g (.im sz n els) p.2)) s = some o' → (s = g ∧ o' = .dead) ∨ (s ≠ g ∧ ∃ o, getH h s = some o ∧ o' = fzO g (.im sz n els) o) := by
  intro s o' e
  rw [getH_cons] at e
  by_cases c : g = s
  ·rw [if_pos c] at e; exact .inl ⟨c.symm, (Option.some.inj e).symm⟩
  ·rw [if_neg c, getH_map] at e
   cases ho : getH h s with
   | none => rw [ho] at e; cases e
   | some o => rw [ho] at e; exact .inr ⟨fun e => c e.symm, o, rfl, (Option.some.inj e).symm⟩
 have hMk : ∀ b, Mut F.M0 r ((g, MO.dead) :: h.map fun p => (p.1, fzO g (.im sz n els) p.2)) b → Mut F.M0 r ((g, MO.dead) :: h) b := by
  rintro b (hm | ⟨s, o', V', h1, h2, h3, h4⟩)
  ·exact .inl hm
  ·rcases hgetH h1 with ⟨_, rfl⟩ | ⟨hne, o, ho, rfl⟩
   ·cases h2
   ·refine .inr ⟨s, o, V', ?_, by rw [← hlive o]; exact h2, h3, h4⟩
    rw [getH_cons, if_neg (fun e => hne e.symm)]; exact ho
 obtain ⟨_, E⟩ := hr.kill hg
 have hm : ∀ b, b < w.heap.size → ¬ Mut F.M0 r h b → ¬ Mut F.M0 r ((g, MO.dead) :: h.map fun p => (p.1, fzO g (.im sz n els) p.2)) b := fun b hb h1 h2 => (E.keep b hb h1).2 (hMk b h2)
 have him : ∀ V', r g = some V' → VR w (.im sz n els) r (Mut F.M0 r ((g, MO.dead) :: h.map fun p => (p.1, fzO g (.im sz n els) p.2))) V' := by
  intro V' e
  rw [hV] at e
  cases e
  exact VR.mono (Nat.le_refl _) (fun b _ hb => ⟨rfl, fun h => hb (hMk b h)⟩) _ (fun _ _ e => by cases e) hi
 refine ⟨⟨fun s => ?_, fun s o' V' h1 h2 => ?_, fun s s' o1 o2 V1 V2 b h1 h2 l1 l2 h3 h4 h5 h6 => ?_, fun s o' V' b h1 h2 h3 h4 => ?_, hr.os, hr.tape, hr.output, hr.size, hr.frame, hr.m0, hr.pin⟩, fun s => ?_, hn, hd⟩
 ·rw [getH_cons]
  by_cases c : g = s
  ·rw [if_pos c, ← c, hV]; rfl
  ·rw [if_neg c, getH_map, Option.isSome_map]; exact hr.dom s
 ·rcases hgetH h1 with ⟨_, rfl⟩ | ⟨hne, o, ho, rfl⟩
  ·trivial
  ·have := hr.objs s o V' ho h2
   cases o with
   | dead => trivial
   | box T' cs =>
    obtain ⟨b, c, e, k1, k2⟩ := this
    exact ⟨b, c, e, k1, fzL_ok him hm cs k2⟩
   | row T' sz' n' els' =>
    obtain ⟨xs, k1, k2⟩ := this
    refine ⟨xs, k1, fun i hi' => ?_⟩
    obtain ⟨Us, a1, a2, a3⟩ := k2 i hi'
    exact ⟨Us, a1, a2, VRL.mono (Nat.le_refl _) (fun b hb h => ⟨rfl, hm b hb h⟩) _ (fun _ _ h => h) a3⟩
   | raw q => exact this
 ·rcases hgetH h1 with ⟨_, rfl⟩ | ⟨n1, p1, q1, rfl⟩
  ·cases l1
  rcases hgetH h2 with ⟨_, rfl⟩ | ⟨n2, p2, q2, rfl⟩
  ·cases l2
  rw [hlive] at l1 l2
  exact hr.sep s s' p1 p2 V1 V2 b q1 q2 l1 l2 h3 h4 h5 h6
 ·rcases hgetH h1 with ⟨_, rfl⟩ | ⟨n1, p1, q1, rfl⟩
  ·cases h2
  rw [hlive] at h2
  exact hr.base s p1 V' b q1 h2 h3 h4
 ·rw [getT_map _ (by unfold fzA; rfl)]
  exact fz_ok him hm _ (ht s)
end
def BC (P : Program) (f : FuncId) (T : Nat) (cs : AL) (args : AL) (res : AV) (cs' : AL) : Prop := ∀ (w : World) (M : Cond) (b : Nat) (c : Array Value) (Vs : List Value), MOk w M → (¬ M b ∧ 4 ≤ b) →
 w.heap[b]? = some (.cells c T (0, 0)) → VRL w cs true r0 (fun k => M k ∨ k = b) c.toList → VRL w args false r0 (fun k => M k ∨ k = b) Vs →
 Calls P f (.pointer (some ⟨b, 0, none⟩) :: Vs).toArray w (fun e w' => ∃ V c', e = .returned V ∧ VR w' res r0 (fun k => M k ∨ k = b) V ∧ w'.heap[b]? = some (.cells c' T (0, 0)) ∧ VRL w' cs' true r0 (fun k => M k ∨ k = b) c'.toList ∧
  w'.os = w.os ∧ w'.tape = w.tape ∧ w'.output = w.output ∧ w.heap.size ≤ w'.heap.size ∧ ∀ k, k < w.heap.size → k ≠ b → w'.heap[k]? = w.heap[k]?)
def retB (P : Program) (F : Fr) (fn : Func) (T b : Nat) (res : AV) (cs' : AL) : Post := bodyPost P fn (fun e w' => ∃ V c', e = .returned V ∧ VR w' res r0 (fun k => F.M0 k ∨ k = b) V ∧ w'.heap[b]? = some (.cells c' T (0, 0)) ∧ VRL w' cs' true r0 (fun k => F.M0 k ∨ k = b) c'.toList ∧
  w'.os = F.w0.os ∧ w'.tape = F.w0.tape ∧ w'.output = F.w0.output ∧ F.w0.heap.size ≤ w'.heap.size ∧ ∀ k, k < F.w0.heap.size → k ≠ b → w'.heap[k]? = F.w0.heap[k]?)
section
variable {P : Program} {F : Fr} {N : Nat} {Q : Post} {k k' : List It} {t t' : Tm} {h h' : Hp} {Tb : Tab}
theorem BC.enter {f : FuncId} {fn : Func} {c : Code} {T : Nat} {cs args cs' : AL} {res : AV} {t0 : Tm} (g : Nat) (hf : P.funcs[f]? = some fn) (hN : fn.ntmps = N) (hb : fn.body = some c) (hl : Nat.ble (args.len + 1) N = true) (ht0 : argK 1 args (fun t => some ((0, AV.ptr g 0) :: t)) = some t0)
  (H : ∀ (F : Fr) (b : Nat), (F.X = (fun k => k = b) ∧ F.R0 = updR r0 g (.pointer (some ⟨b, 0, none⟩))) → b < F.w0.heap.size → Good P F N (retB P F fn T b res cs') [.code c] t0 [(g, .box T cs)]) : BC P f T cs args res cs' := by
 intro w M b cc Vs hM hMb hbk hcs hv
 rw [argK_eq] at ht0
 obtain rfl := Option.some.inj ht0
 have hl := Nat.le_of_ble_eq_true hl
 have hlen := hv.length
 have hbs : b < w.heap.size := (Array.getElem?_eq_some_iff.1 hbk).1
 refine calls_of_wp hf hb ?_
 have hr1 : ∀ {g' : Nat} {o : MO}, getH [(g, MO.box T cs)] g' = some o → g' = g ∧ o = .box T cs := by
  intro g' o e
  rw [getH_cons] at e
  split at e
  ·rename_i e2; exact ⟨e2.symm, (Option.some.inj e).symm⟩
  ·cases e
 have hM1 : ∀ j, Mut M (updR r0 g (.pointer (some ⟨b, 0, none⟩))) [(g, MO.box T cs)] j → M j ∨ j = b := by
  rintro j (hm | ⟨g', o, V, e1, e2, e3, e4⟩)
  ·exact .inl hm
  ·obtain ⟨rfl, rfl⟩ := hr1 e1
   unfold updR at e3
   rw [if_pos rfl] at e3
   cases e3
   cases e4
   exact .inr rfl
 have mono : ∀ {l : AL} {one : Bool} {Us : List Value}, VRL w l one r0 (fun k => M k ∨ k = b) Us → VRL w l one (updR r0 g (.pointer (some ⟨b, 0, none⟩))) (Mut M (updR r0 g (.pointer (some ⟨b, 0, none⟩))) [(g, MO.box T cs)]) Us := fun hv =>
  VRL.mono (Nat.le_refl _) (fun j _ hj => ⟨rfl, fun h => hj (hM1 j h)⟩) _ (fun _ _ e => by cases e) hv
 refine H ⟨w, fun k => k = b, M, updR r0 g (.pointer (some ⟨b, 0, none⟩))⟩ b ⟨rfl, rfl⟩ hbs _ w ⟨updR r0 g (.pointer (some ⟨b, 0, none⟩)), ?_, ?_, ?_, rfl⟩
 ·refine ⟨fun g' => ?_, fun g' o V h1 h2 => ?_, fun g1 g2 o1 o2 V1 V2 b' h1 h2 _ _ _ _ _ _ => ?_, fun g' o V b' h1 _ h3 h4 => ?_, rfl, rfl, rfl, Nat.le_refl _, (fun k _ _ => rfl), ⟨fun j hj => ⟨hM.1 j hj, fun e => hMb.1 (e ▸ hj)⟩, hM.2, fun j e => by rw [show j = b from e]; exact hMb.2⟩, (fun _ _ e => e)⟩
  ·rw [getH_cons]
   unfold updR
   by_cases e : g' = g
   ·rw [if_pos e, if_pos e.symm]; rfl
   ·rw [if_neg e, if_neg (fun e' => e e'.symm)]; rfl
  ·obtain ⟨rfl, rfl⟩ := hr1 h1
   unfold updR at h2
   rw [if_pos rfl] at h2
   cases h2
   exact ⟨b, cc, rfl, hbk, mono hcs⟩
  ·rw [(hr1 h1).1, (hr1 h2).1]
  ·obtain ⟨rfl, rfl⟩ := hr1 h1
   unfold updR at h3
   rw [if_pos rfl] at h3
   cases h3
   cases h4
   exact .inr rfl
 ·have hv' := mono hv
  have hL := TR_args args Vs 1 hv'
  intro s
  have e : (((Value.pointer (some ⟨b, 0, none⟩) :: Vs).toArray ++ Array.replicate (fn.ntmps - (Value.pointer (some ⟨b, 0, none⟩) :: Vs).toArray.size) undef).getD s undef) = ((Value.pointer (some ⟨b, 0, none⟩) :: Vs)[s]?).getD undef := by
   rw [Array.getD_eq_getD_getElem?, Array.getElem?_append]
   split
   ·simp
   ·rename_i hlt
    rw [List.getElem?_eq_none (by simpa using hlt)]
    rw [Array.getElem?_replicate]
    split <;> rfl
  show VR w (getT ((0, AV.ptr g 0) :: argT 1 args) s) _ _ _
  rw [e, getT_cons]
  by_cases e0 : 0 = s
  ·subst e0
   rw [if_pos rfl]
   unfold VR
   exact ⟨b, by unfold updR; rw [if_pos rfl], rfl⟩
  ·rw [if_neg e0]
   have := hL s
   rw [if_pos (by omega)] at this
   rw [show s = (s - 1) + 1 by omega, List.getElem?_cons_succ]
   rw [show s - 1 + 1 = s by omega]
   exact this
 ·simp; omega
end
end Go.Proofs.YthjldemjipnmdaaGreatDoor.Sx
namespace Go.Proofs.YthjldemjipnmdaaGreatDoor.Sx
open Go.RowKit
section
variable {P : Program} {F : Fr} {N : Nat} {Q : Post} {k k' : List It} {t t' : Tm} {h h' : Hp} {Tb : Tab}
def boxA (h : Hp) (g T : Nat) : Option AL := match getH h g with
 | some (.box T' cs) => match Nat.beq T T' with
  | true => dcL (frzL h cs) some
  | false => none
 | _ => none
theorem retB_core (hT : TabOk P Tb) {fn : Func} {T b g : Nat} {res v : AV} {cf cs' : AL} (hX : (F.X = fun k => k = b) ∧ F.R0 = updR r0 g (.pointer (some ⟨b, 0, none⟩))) (hl : retA Tb t h fn.results.toList = some v) (hs : Sub v res) (hg : boxA h g T = some cf) (hc : SubL cf cs') {a : Act} {w : World} (hst : ST F N t h a w) : retB P F fn T b res cs' .ret a w := by
 obtain ⟨r, hr, ht, hn, hd⟩ := hst
 unfold retA at hl
 split at hl <;> try (cases hl; done)
 rename_i l hl'
 rw [dcA_eq] at hl
 obtain rfl := Option.some.inj hl
 unfold boxA at hg
 split at hg <;> try (cases hg; done)
 split at hg <;> try (cases hg; done)
 rename_i T' cs hbox _ hTT
 obtain rfl := Nat.eq_of_beq_eq_true hTT
 rw [dcL_eq] at hg
 obtain rfl := Option.some.inj hg
 have hV : r g = some (.pointer (some ⟨b, 0, none⟩)) := hr.pin g _ (by rw [hX.2]; unfold updR; rw [if_pos rfl])
 obtain ⟨b', c, e, h1, h2⟩ := hr.objs g _ _ hbox hV
 cases e
 have hMb : Mut F.M0 r h b := .inr ⟨g, _, _, hbox, rfl, hV, rfl⟩
 have hM : ∀ k, ¬ Mut F.M0 r h k → ¬ (F.M0 k ∨ k = b) := by
  rintro k hk (h1 | h1)
  ·exact hk (.inl h1)
  ·exact hk (h1 ▸ hMb)
 have hO : ∀ (g' T' sz n : Nat) (els : Nat → AL) (V : Value), getH h g' = some (.row T' sz n els) → r g' = some V → VR w (.im sz n els) r0 (fun k => F.M0 k ∨ k = b) V := by
  intro g' T' sz n els V hg' hV'
  have him := hr.own_im hg' hV'
  unfold VR at him ⊢
  rcases him with him | ⟨b2, off, cap, rfl, k1, k2, k3, k4⟩
  ·exact .inl him
  ·refine .inr ⟨b2, off, cap, rfl, k1, k2, ?_, fun i hi => ?_⟩
   ·rintro (h5 | h5)
    ·exact k3 h5
    ·subst h5
     have := hr.sep g g' _ _ _ _ b2 hbox hg' rfl rfl hV hV' rfl rfl
     subst this
     rw [hbox] at hg'
     cases hg'
   ·obtain ⟨xs, ho, hel⟩ := hr.objs g' _ _ hg' hV'
    obtain ⟨Us, a1, a2, a3⟩ := k4 i hi
    obtain ⟨Ws, c1, c2, c3⟩ := hel i hi
    have : Us = Ws := by
     refine List.ext_getElem? fun j => ?_
     by_cases hj : j < sz
     ·have e1 : Us[j]? = some Us[j] := List.getElem?_eq_getElem (by omega)
      have e2 : Ws[j]? = some Ws[j] := List.getElem?_eq_getElem (by omega)
      have q1 := a1 j _ e1
      have q2 := c1 j _ e2
      rcases ho.2 with ⟨e, _⟩ | ⟨b3, cap3, cur, T0, fz, e, _, q5, _, _, _, q6⟩
      ·cases e
      cases e
      rw [← q6, List.getElem?_take] at q2
      split at q2
      ·rw [cell_of_row w b2 _ cur _ fz q5] at q1
       rw [Nat.zero_add] at q1
       rw [Array.getElem?_toList, q1] at q2
       rw [e1, e2, Option.some.inj q2]
      ·cases q2
     ·rw [List.getElem?_eq_none (by omega), List.getElem?_eq_none (by omega)]
    subst this
    exact ⟨Us, a1, a2, VRL.mono (Nat.le_refl _) (fun k _ hk => ⟨rfl, hM k hk⟩) _ (fun _ _ h => h) c3⟩
 obtain ⟨V, k1, k2⟩ := results_ok hT hr ht hl'
 refine ⟨hd, V, k1, V, c, rfl, hs _ _ _ _ (frz_okM hO hM _ k2), h1, hc _ _ _ _ _ (frzL_okM hO hM _ h2), hr.os, hr.tape, hr.output, hr.size, fun k hk hne => hr.frame k hk (by rw [hX.1]; exact hne)⟩
theorem good_retB (hT : TabOk P Tb) {fn : Func} {T b g : Nat} {res v : AV} {cf cs' : AL} (hX : (F.X = fun k => k = b) ∧ F.R0 = updR r0 g (.pointer (some ⟨b, 0, none⟩))) (hl : retA Tb t h fn.results.toList = some v) (hg : boxA h g T = some cf) (hs : Sub v res) (hc : SubL cf cs') : Good P F N (retB P F fn T b res cs') (.code .ret :: k) t h := fun _ _ hst =>
 wp_ret (QS_ret k (retB_core hT hX hl hs hg hc hst))
theorem good_endB (hT : TabOk P Tb) {fn : Func} {T b g : Nat} {res v : AV} {cf cs' : AL} (hX : (F.X = fun k => k = b) ∧ F.R0 = updR r0 g (.pointer (some ⟨b, 0, none⟩))) (hl : retA Tb t h fn.results.toList = some v) (hg : boxA h g T = some cf) (hs : Sub v res) (hc : SubL cf cs') : Good P F N (retB P F fn T b res cs') [] t h := fun _ _ hst =>
 retB_core hT hX hl hs hg hc hst
theorem call_wpB {o : Oper} {c : Call} {x : Operand} {f g T : Nat} {cs args cs' : AL} {res : AV} (ho : o.op = .call c) (hc : c.callee = .value x) (ha : argsA t x c.args.toList = some (f, .cons (.ptr g 0) args)) (hcl : clL args = true) (hg : getH h g = some (.box T cs)) (hcs : clL cs = true) (hE : Ent P f) (A : BC P f T cs args res cs') : OpWp P F o t h res ((g, .box T cs') :: h) := by
 intro r a w hr ht next Q hn
 obtain ⟨caps, e, hv⟩ := args_ok ht ha
 have hrun : (execOp a.eval o).run P w = .ok (.enter f ((c.args.map a.eval) ++ caps)) w := by
  have := hE (c.args.map a.eval ++ caps) w
  simp [execOp, ho, resolve, hc, e, Deferred.ofValue, invoke, this]
 unfold Oper.wp
 rw [hrun, Oper.upon_enter]
 have e2 : (c.args.map a.eval ++ caps) = (c.args.toList.map a.eval ++ caps.toList).toArray := by
  apply Array.ext'
  simp
 rw [e2]
 generalize c.args.toList.map a.eval ++ caps.toList = Vs at hv
 match Vs, hv with
 | [], hv => unfold VRL at hv; exact hv.elim
 | V0 :: Vs, hv =>
  unfold VRL at hv
  obtain ⟨_, h1, h2⟩ := hv
  unfold VR at h1
  obtain ⟨b, hV, rfl⟩ := h1
  obtain ⟨b', cc, e3, k1, k2⟩ := hr.objs g _ _ hg hV
  cases e3
  have hMb : Mut F.M0 r h b := .inr ⟨g, _, _, hg, rfl, hV, rfl⟩
  have hM1 : ∀ j, (Mut F.M0 r h j ∧ j ≠ b) ∨ j = b → Mut F.M0 r h j := by
   rintro j (h1 | h1)
   ·exact h1.1
   ·exact h1 ▸ hMb
  have hM2 : ∀ j, Mut F.M0 r h j → (Mut F.M0 r h j ∧ j ≠ b) ∨ j = b := fun j hj => by
   by_cases e : j = b
   ·exact .inr e
   ·exact .inl ⟨hj, e⟩
  have mono : ∀ {l : AL} {one : Bool} {Us : List Value}, clL l = true → VRL w l one r (Mut F.M0 r h) Us → VRL w l one r0 (fun k => (Mut F.M0 r h k ∧ k ≠ b) ∨ k = b) Us := fun hc hv =>
   VRL.closed _ hc (VRL.mono (Nat.le_refl _) (fun j _ hj => ⟨rfl, fun h => hj (hM1 j h)⟩) _ (fun _ _ h => h) hv)
  refine (A w (fun k => Mut F.M0 r h k ∧ k ≠ b) b cc Vs ⟨fun j hj => hr.lt hj.1, hr.gl⟩ ⟨fun hj => hj.2 rfl, hr.four hg rfl hV rfl⟩ k1 (mono hcs k2) (mono hcl h2)).mono ?_
  rintro _ w' ⟨V, c', rfl, q1, q2, q3, q4, q5, q6, q7, q8⟩
  have hsub : ∀ j, Mut F.M0 r ((g, MO.box T cs') :: h) j → Mut F.M0 r h j := by
   rintro j (hm | ⟨g', o', V', a1, a2, a3, a4⟩)
   ·exact .inl hm
   ·rw [getH_cons] at a1
    split at a1
    ·rename_i e4
     subst e4
     cases a1
     exact .inr ⟨g, _, V', hg, rfl, a3, a4⟩
    ·exact .inr ⟨g', o', V', a1, a2, a3, a4⟩
  obtain ⟨u1, u2⟩ := hr.set (w' := w') hg rfl hV (b := b) rfl q4 q5 q6 q7 q8 (o' := .box T cs') (fun E => ⟨b, c', rfl, q2, (VRL.mono (Nat.le_refl _) (fun j _ hj => ⟨rfl, fun h => hj (hM2 j (hsub j h))⟩) _ (fun _ _ h => h) q3).lift⟩)
  exact hn V w' r u1 u2 (VR.mono (Nat.le_refl _) (fun j _ hj => ⟨rfl, fun h => hj (hM2 j (hsub j h))⟩) _ (fun _ _ h => h) q1).lift
theorem good_callB {all : Array Oper} {o : Oper} {l : List Oper} {c : Call} {x : Operand} {f g T : Nat} {cs args cs' : AL} {res : AV} (hg0 : o.guard = none) (ho : o.op = .call c) (hc : c.callee = .value x) (ha : argsA t x c.args.toList = some (f, .cons (.ptr g 0) args)) (hcl : clL args = true) (hg : getH h g = some (.box T cs)) (hcs : clL cs = true) (hE : Ent P f) (A : BC P f T cs args res cs') (hN : updK N t o.dst res = some t')
  (H : Good P F N Q (.ops all l :: k) t' ((g, .box T cs') :: h)) : Good P F N Q (.ops all (o :: l) :: k) t h := good_op hg0 (call_wpB ho hc ha hcl hg hcs hE A) (updK_ok hN).1 ((updK_ok hN).2 ▸ H)
theorem good_by {all : Array Oper} {o : Oper} {l : List Oper} {v : AV} (hg : o.guard = none) (ho : OpWp P F o t h v h') (hN : updK N t o.dst v = some t') (H : Good P F N Q (.ops all l :: k) t' h') : Good P F N Q (.ops all (o :: l) :: k) t h :=
 good_op hg ho (updK_ok hN).1 ((updK_ok hN).2 ▸ H)
end
section
variable {P : Program} {F : Fr} {t : Tm} {h : Hp} {d : Option Tmp} {ty : TypeId} {ps : String} {af : Array Edge} {gd : Option (Nat × Bool)}
def wrapBin (op : BinOp) (a b : Int) : Option Int := match op with
 | .add => some (wrap64 (a + b))
 | .sub => some (wrap64 (a - b))
 | .mul => some (wrap64 (a * b))
 | _ => none
theorem ok_wrap (op : BinOp) (T T' : Nat) (x y : Operand) (a b n : Int) (hx : ev t x = .val (.int .i64 a)) (hy : ev t y = .val (.int .i64 b)) (he : wrapBin op a b = some n) : OpWp P F ⟨d, .binOp op T x y T', ty, ps, af, gd⟩ t h (.val (.int .i64 n)) h :=
 OpWp.pure fun r a' w hr ht => by
  refine ⟨_, ?_, vr_val⟩
  unfold wrapBin at he
  cases op <;> simp only [reduceCtorEq, Option.some.injEq] at he <;> subst he <;> simp [execOp, VR_val ht hx, VR_val ht hy, guard_int, binOp, Op.intArith, IntKind.wrap_i64] <;> unfold wrap64 <;> rfl
theorem ok_quoS (op : BinOp) (T T' : Nat) (x y : Operand) (a b n : Int) (hx : ev t x = .val (.int .i64 a)) (hy : ev t y = .val (.int .i64 b)) (he : (match op with | .quo => some (a.tdiv b) | .rem => some (a.tmod b) | _ => none) = some n) (hb : 0 < b) (ha : i64B a) : OpWp P F ⟨d, .binOp op T x y T', ty, ps, af, gd⟩ t h (.val (.int .i64 n)) h :=
 OpWp.pure fun r a' w hr ht => by
  refine ⟨_, ?_, vr_val⟩
  have h0 : b ≠ 0 := by omega
  have h1 : i64B (a.tdiv b) := by
   have h2 := Int.natAbs_tdiv_le_natAbs a b
   have : (a.tdiv b).natAbs ≤ 9223372036854775808 := by omega
   by_cases hc : a = -9223372036854775808 ∧ b = 1
   ·obtain ⟨rfl, rfl⟩ := hc; decide
   ·by_cases ha0 : 0 ≤ a
    ·have := Int.tdiv_nonneg ha0 (show 0 ≤ b by omega); omega
    ·have h3 := Int.tdiv_nonneg (show 0 ≤ -a by omega) (show 0 ≤ b by omega)
     rw [Int.neg_tdiv] at h3
     omega
  cases op <;> simp only [reduceCtorEq, Option.some.injEq] at he <;> subst he
  ·simp [execOp, VR_val ht hx, VR_val ht hy, guard_int, binOp, Op.intDiv, h0, wrap_i64B h1]
  ·simp [execOp, VR_val ht hx, VR_val ht hy, guard_int, binOp, Op.intDiv, h0]
end
end Go.Proofs.YthjldemjipnmdaaGreatDoor.Sx
