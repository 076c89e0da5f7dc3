/- The library's contracts that this claim uses, laid at this program's numbers. -/
import Derived.Shelf.Strings.OnBuilder
import Derived.Shelf.LaysM
import Derived.Shelf.Strconv.Itoa4
import Derived.Shelf.LaysC
import Derived.Shelf.Strconv.ParseIntPublic10
import Derived.Shelf.Strings.Split
import Derived.Test.YtajkepdfemdagaaDoorProg
namespace Go.Proofs
open Go.Shelf
def Tryd.lays156_ren : Go.Shelf.Ren := ⟨fun | 156 => 76 | 165 => 92 | 166 => 93 | 169 => 94 | 240 => 107 | 241 => 108 | 276 => 123 | 277 => 124 | n => n, fun | 31 => 81 | 9 => 9 | 3 => 3 | 4 => 4 | 0 => 0 | 20 => 20 | 72 => 114 | 76 => 116 | 70 => 112 | 37 => 106 | 75 => 103 | 127 => 131 | 164 => 150 | 5 => 5 | 80 => 118 | n => n, fun | n => n⟩
theorem Tryd.lays156 : Go.Proofs.Lays.n156 Tryd.prog Tryd.lays156_ren := {
  mixed := by kernel_rfl
  f156 := Tryd.func76.trans (congrArg some (by kernel_rfl))
  f165 := Tryd.func92.trans (congrArg some (by kernel_rfl))
  f166 := Tryd.func93.trans (congrArg some (by kernel_rfl))
  f169 := Tryd.func94.trans (congrArg some (by kernel_rfl))
  f240 := Tryd.func107.trans (congrArg some (by kernel_rfl))
  f241 := Tryd.func108.trans (congrArg some (by kernel_rfl))
  f276 := Tryd.func123.trans (congrArg some (by kernel_rfl))
  f277 := Tryd.func124.trans (congrArg some (by kernel_rfl))
  t0 := Tryd.underlying0
  a0 := Tryd.isAgg0
  z0 := Tryd.sizeOf0
  v0 := Tryd.zeroValue0
  t3 := Tryd.underlying3
  a3 := Tryd.isAgg3
  z3 := Tryd.sizeOf3
  v3 := Tryd.zeroValue3
  t4 := Tryd.underlying4
  a4 := Tryd.isAgg4
  z4 := Tryd.sizeOf4
  v4 := Tryd.zeroValue4
  t9 := Tryd.underlying9
  a9 := Tryd.isAgg9
  z9 := Tryd.sizeOf9
  v9 := Tryd.zeroValue9
  t20 := Tryd.underlying20
  a20 := Tryd.isAgg20
  z20 := Tryd.sizeOf20
  v20 := Tryd.zeroValue20
  t31 := Tryd.underlying81
  a31 := Tryd.isAgg81
  z31 := Tryd.sizeOf81
  v31 := Tryd.zeroValue81
  t37 := Tryd.underlying106
  a37 := Tryd.isAgg106
  z37 := Tryd.sizeOf106
  v37 := Tryd.zeroValue106
  t70 := Tryd.underlying112
  a70 := Tryd.isAgg112
  z70 := Tryd.sizeOf112
  v70 := Tryd.zeroValue112
  t72 := Tryd.underlying114
  a72 := Tryd.isAgg114
  z72 := Tryd.sizeOf114
  v72 := Tryd.zeroValue114
  t75 := Tryd.underlying103
  a75 := Tryd.isAgg103
  z75 := Tryd.sizeOf103
  v75 := Tryd.zeroValue103
  t76 := Tryd.underlying116
  a76 := Tryd.isAgg116
  z76 := Tryd.sizeOf116
  v76 := Tryd.zeroValue116
  t127 := Tryd.underlying131
  a127 := Tryd.isAgg131
  z127 := Tryd.sizeOf131
  v127 := Tryd.zeroValue131
  t164 := Tryd.underlying150
  a164 := Tryd.isAgg150
  z164 := Tryd.sizeOf150
  v164 := Tryd.zeroValue150 }
theorem Tryd.Builder_Extra_156 : Builder.Extra Tryd.prog Tryd.lays156_ren := {
  sizeBuilder := by kernel_rfl
  liesBuilder := by kernel_rfl
  t5 := Tryd.underlying5
  a5 := Tryd.isAgg5
  z5 := Tryd.sizeOf5
  v5 := Tryd.zeroValue5
  infoByte := by kernel_rfl
  cellsByte := by kernel_rfl
  sizeByte := by kernel_rfl
  neB5 := by decide }
open Go.RowKit in
/-- No element: the empty string; the world is as it was. (Whatever the slice's address and capacity: a nil slice too.) (LAID: no walk: one application.) -/
theorem Tryd.strings_Join_none (a : Option Addr) (c : Nat) (sep : ByteArray) (w : World) :
    Calls Tryd.prog 76 #[.slice a 0 c, .string sep] w fun e w' => e = .returned (.string ⟨#[]⟩) ∧ w' = w := Any.strings_Join_none Tryd.lays156 Tryd.Builder_Extra_156 a c sep w
open Go.RowKit in
/-- strings.Join: "Join concatenates the elements of its first argument to create a single string. The separator string sep is placed between elements in the resulting string.": HOWEVER MANY ELEMENTS. Below the heap's end the world is as it was. (LAID: no walk: one application.) -/
theorem Tryd.strings_Join (bk o c : Nat) (xs : List ByteArray) (sep : ByteArray) (w : World) (hcells : ∀ (j : Nat) x, xs[j]? = some x → w.cell? ⟨bk, o + j, none⟩ = some (.string x)) (hbk : bk < w.heap.size) (hN : xs.length ≤ 140737488355328) (hcap : xs.length ≤ c) (hlen : (Lib.join (xs.map (·.data.toList)) sep.data.toList).length ≤ 140737488355328) :
    Calls Tryd.prog 76 #[.slice (some ⟨bk, o, none⟩) xs.length c, .string sep] w fun e w' => e = .returned (.string ⟨(Lib.join (xs.map (·.data.toList)) sep.data.toList).toArray⟩) ∧ Below w.heap.size w w' := Any.strings_Join Tryd.lays156 Tryd.Builder_Extra_156 bk o c xs sep w hcells hbk hN hcap hlen
def Tryd.laysM173_ren : Go.Shelf.Ren := ⟨fun | 173 => 68 | 246 => 87 | 283 => 101 | 284 => 102 | 285 => 103 | 286 => 104 | 129 => 119 | 317 => 118 | 318 => 120 | 319 => 121 | 320 => 122 | 337 => 135 | 338 => 136 | n => n, fun | 2 => 2 | 3 => 3 | 9 => 9 | 4 => 4 | 171 => 124 | 0 => 0 | 53 => 125 | 37 => 106 | 5 => 5 | 173 => 128 | 212 => 145 | 51 => 146 | 20 => 20 | 213 => 147 | 46 => 139 | 232 => 168 | 233 => 169 | n => n, fun | 17 => 0 | 18 => 6 | 19 => 7 | n => n⟩
theorem Tryd.laysM173 : Go.Proofs.LaysM.n173 Tryd.prog Tryd.laysM173_ren := {
  mixed := by kernel_rfl
  f129 := Tryd.func119.trans (congrArg some (by kernel_rfl))
  f173 := Tryd.func68.trans (congrArg some (by kernel_rfl))
  f246 := Tryd.func87.trans (congrArg some (by kernel_rfl))
  f283 := Tryd.func101.trans (congrArg some (by kernel_rfl))
  f284 := Tryd.func102.trans (congrArg some (by kernel_rfl))
  f285 := Tryd.func103.trans (congrArg some (by kernel_rfl))
  f286 := Tryd.func104.trans (congrArg some (by kernel_rfl))
  f317 := Tryd.func118.trans (congrArg some (by kernel_rfl))
  f318 := Tryd.func120.trans (congrArg some (by kernel_rfl))
  f319 := Tryd.func121.trans (congrArg some (by kernel_rfl))
  f320 := Tryd.func122.trans (congrArg some (by kernel_rfl))
  f337 := Tryd.func135.trans (congrArg some (by kernel_rfl))
  f338 := Tryd.func136.trans (congrArg some (by kernel_rfl))
  t0 := Tryd.underlying0
  a0 := Tryd.isAgg0
  z0 := Tryd.sizeOf0
  v0 := Tryd.zeroValue0
  t2 := Tryd.underlying2
  a2 := Tryd.isAgg2
  z2 := Tryd.sizeOf2
  v2 := Tryd.zeroValue2
  t3 := Tryd.underlying3
  a3 := Tryd.isAgg3
  z3 := Tryd.sizeOf3
  v3 := Tryd.zeroValue3
  t4 := Tryd.underlying4
  a4 := Tryd.isAgg4
  z4 := Tryd.sizeOf4
  v4 := Tryd.zeroValue4
  t5 := Tryd.underlying5
  a5 := Tryd.isAgg5
  z5 := Tryd.sizeOf5
  v5 := Tryd.zeroValue5
  t9 := Tryd.underlying9
  a9 := Tryd.isAgg9
  z9 := Tryd.sizeOf9
  v9 := Tryd.zeroValue9
  t20 := Tryd.underlying20
  a20 := Tryd.isAgg20
  z20 := Tryd.sizeOf20
  v20 := Tryd.zeroValue20
  t37 := Tryd.underlying106
  a37 := Tryd.isAgg106
  z37 := Tryd.sizeOf106
  v37 := Tryd.zeroValue106
  t46 := Tryd.underlying139
  a46 := Tryd.isAgg139
  z46 := Tryd.sizeOf139
  v46 := Tryd.zeroValue139
  t51 := Tryd.underlying146
  a51 := Tryd.isAgg146
  z51 := Tryd.sizeOf146
  v51 := Tryd.zeroValue146
  t53 := Tryd.underlying125
  a53 := Tryd.isAgg125
  z53 := Tryd.sizeOf125
  v53 := Tryd.zeroValue125
  t171 := Tryd.underlying124
  a171 := Tryd.isAgg124
  z171 := Tryd.sizeOf124
  v171 := Tryd.zeroValue124
  t173 := Tryd.underlying128
  a173 := Tryd.isAgg128
  z173 := Tryd.sizeOf128
  v173 := Tryd.zeroValue128
  t212 := Tryd.underlying145
  a212 := Tryd.isAgg145
  z212 := Tryd.sizeOf145
  v212 := Tryd.zeroValue145
  t213 := Tryd.underlying147
  a213 := Tryd.isAgg147
  z213 := Tryd.sizeOf147
  t232 := Tryd.underlying168
  a232 := Tryd.isAgg168
  z232 := Tryd.sizeOf168
  v232 := Tryd.zeroValue168
  t233 := Tryd.underlying169
  a233 := Tryd.isAgg169
  z233 := Tryd.sizeOf169
  v233 := Tryd.zeroValue169
  g17 := by kernel_rfl
  g18 := by kernel_rfl
  g19 := by kernel_rfl
  i0 := by kernel_rfl
  i2 := by kernel_rfl
  i3 := by kernel_rfl
  i4 := by kernel_rfl
  i5 := by kernel_rfl
  i9 := by kernel_rfl
  i20 := by kernel_rfl
  i37 := by kernel_rfl
  i46 := by kernel_rfl
  i51 := by kernel_rfl
  i53 := by kernel_rfl
  i171 := by kernel_rfl
  i173 := by kernel_rfl
  i212 := by kernel_rfl
  i232 := by kernel_rfl
  i233 := by kernel_rfl
  m17 := by kernel_rfl
  m18 := by kernel_rfl
  m19 := by kernel_rfl }
open Go.RowKit Go.Sort Go.Lib in
/-- strconv.FormatInt: "FormatInt returns the string representation of i in the given base": AT BASE 10: i's decimal numeral, for every int64. (LAID: no walk: one application.) -/
theorem Tryd.strconv_FormatInt_10 (n : Int) (h0 : -9223372036854775808 ≤ n) (h1 : n ≤ 9223372036854775807) (w : World) (htab : Lib.TabIs Tryd.prog w "internal/strconv.uint64pow10" .u64 Lib.pow10Tab) :
    Calls Tryd.prog 68 #[.int .i64 n, .int .i64 10] w fun e w' => e = .returned (.string ⟨(Lib.itoa n).toArray⟩) ∧ ∃ k os, w' = grow (w.drewN k) os := Any.strconv_FormatInt_10 Tryd.laysM173 n h0 h1 w htab
def Tryd.lays173_ren : Go.Shelf.Ren := ⟨fun | 173 => 68 | 246 => 87 | 283 => 101 | 284 => 102 | 285 => 103 | 286 => 104 | 129 => 119 | 317 => 118 | 318 => 120 | 319 => 121 | 320 => 122 | 337 => 135 | 338 => 136 | n => n, fun | 2 => 2 | 3 => 3 | 9 => 9 | 4 => 4 | 171 => 124 | 0 => 0 | 53 => 125 | 37 => 106 | 5 => 5 | 173 => 128 | 212 => 145 | 51 => 146 | 20 => 20 | 213 => 147 | 46 => 139 | 232 => 168 | 233 => 169 | n => n, fun | 17 => 0 | 18 => 6 | 19 => 7 | n => n⟩
theorem Tryd.lays173 : Go.Proofs.Lays.n173 Tryd.prog Tryd.lays173_ren := {
  mixed := by kernel_rfl
  f129 := Tryd.func119.trans (congrArg some (by kernel_rfl))
  f173 := Tryd.func68.trans (congrArg some (by kernel_rfl))
  f246 := Tryd.func87.trans (congrArg some (by kernel_rfl))
  f283 := Tryd.func101.trans (congrArg some (by kernel_rfl))
  f284 := Tryd.func102.trans (congrArg some (by kernel_rfl))
  f285 := Tryd.func103.trans (congrArg some (by kernel_rfl))
  f286 := Tryd.func104.trans (congrArg some (by kernel_rfl))
  f317 := Tryd.func118.trans (congrArg some (by kernel_rfl))
  f318 := Tryd.func120.trans (congrArg some (by kernel_rfl))
  f319 := Tryd.func121.trans (congrArg some (by kernel_rfl))
  f320 := Tryd.func122.trans (congrArg some (by kernel_rfl))
  f337 := Tryd.func135.trans (congrArg some (by kernel_rfl))
  f338 := Tryd.func136.trans (congrArg some (by kernel_rfl))
  t0 := Tryd.underlying0
  a0 := Tryd.isAgg0
  z0 := Tryd.sizeOf0
  v0 := Tryd.zeroValue0
  t2 := Tryd.underlying2
  a2 := Tryd.isAgg2
  z2 := Tryd.sizeOf2
  v2 := Tryd.zeroValue2
  t3 := Tryd.underlying3
  a3 := Tryd.isAgg3
  z3 := Tryd.sizeOf3
  v3 := Tryd.zeroValue3
  t4 := Tryd.underlying4
  a4 := Tryd.isAgg4
  z4 := Tryd.sizeOf4
  v4 := Tryd.zeroValue4
  t5 := Tryd.underlying5
  a5 := Tryd.isAgg5
  z5 := Tryd.sizeOf5
  v5 := Tryd.zeroValue5
  t9 := Tryd.underlying9
  a9 := Tryd.isAgg9
  z9 := Tryd.sizeOf9
  v9 := Tryd.zeroValue9
  t20 := Tryd.underlying20
  a20 := Tryd.isAgg20
  z20 := Tryd.sizeOf20
  v20 := Tryd.zeroValue20
  t37 := Tryd.underlying106
  a37 := Tryd.isAgg106
  z37 := Tryd.sizeOf106
  v37 := Tryd.zeroValue106
  t46 := Tryd.underlying139
  a46 := Tryd.isAgg139
  z46 := Tryd.sizeOf139
  v46 := Tryd.zeroValue139
  t51 := Tryd.underlying146
  a51 := Tryd.isAgg146
  z51 := Tryd.sizeOf146
  v51 := Tryd.zeroValue146
  t53 := Tryd.underlying125
  a53 := Tryd.isAgg125
  z53 := Tryd.sizeOf125
  v53 := Tryd.zeroValue125
  t171 := Tryd.underlying124
  a171 := Tryd.isAgg124
  z171 := Tryd.sizeOf124
  v171 := Tryd.zeroValue124
  t173 := Tryd.underlying128
  a173 := Tryd.isAgg128
  z173 := Tryd.sizeOf128
  v173 := Tryd.zeroValue128
  t212 := Tryd.underlying145
  a212 := Tryd.isAgg145
  z212 := Tryd.sizeOf145
  v212 := Tryd.zeroValue145
  t213 := Tryd.underlying147
  a213 := Tryd.isAgg147
  z213 := Tryd.sizeOf147
  t232 := Tryd.underlying168
  a232 := Tryd.isAgg168
  z232 := Tryd.sizeOf168
  v232 := Tryd.zeroValue168
  t233 := Tryd.underlying169
  a233 := Tryd.isAgg169
  z233 := Tryd.sizeOf169
  v233 := Tryd.zeroValue169
  g17 := by kernel_rfl
  g18 := by kernel_rfl
  g19 := by kernel_rfl }
open Go.RowKit Go.Sort Go.Lib in
/-- THE ROAD WITHOUT THE TABLE: 0 <= i < 100. (LAID: no walk: one application.) -/
theorem Tryd.strconv_FormatInt_10_small (i : Nat) (hi : i < 100) (w : World) :
    Calls Tryd.prog 68 #[.int .i64 i, .int .i64 10] w fun e w' => e = .returned (.string ⟨(Lib.decDigits i).toArray⟩) ∧ w' = w := Any.strconv_FormatInt_10_small Tryd.lays173 i hi w
def Tryd.laysC174_ren : Go.Shelf.Ren := ⟨fun | 174 => 80 | 247 => 99 | 245 => 100 | 287 => 113 | 279 => 114 | 280 => 115 | 281 => 116 | 282 => 117 | 321 => 130 | 322 => 131 | 316 => 132 | 171 => 134 | 205 => 133 | 243 => 139 | 246 => 87 | 283 => 101 | 284 => 102 | 285 => 103 | 286 => 104 | 129 => 119 | 317 => 118 | 318 => 120 | 319 => 121 | 320 => 122 | 337 => 135 | 338 => 136 | n => n, fun | 9 => 9 | 3 => 3 | 2 => 2 | 75 => 103 | 85 => 104 | 4 => 4 | 167 => 136 | 5 => 5 | 53 => 125 | 175 => 137 | 46 => 139 | 168 => 140 | 37 => 106 | 0 => 0 | 210 => 156 | 21 => 21 | 127 => 131 | 145 => 167 | 143 => 165 | 171 => 124 | 173 => 128 | 212 => 145 | 51 => 146 | 20 => 20 | 213 => 147 | 232 => 168 | 233 => 169 | 80 => 118 | n => n, fun | 15 => 2 | 16 => 3 | 17 => 0 | 18 => 6 | 19 => 7 | n => n⟩
theorem Tryd.laysC174 : Go.Proofs.LaysC.n174 Tryd.prog Tryd.laysC174_ren := {
  mixed := by kernel_rfl
  f129 := Tryd.func119.trans (congrArg some (by kernel_rfl))
  f171 := Tryd.func134.trans (congrArg some (by kernel_rfl))
  f174 := Tryd.func80.trans (congrArg some (by kernel_rfl))
  f205 := Tryd.func133.trans (congrArg some (by kernel_rfl))
  f243 := Tryd.func139.trans (congrArg some (by kernel_rfl))
  f245 := Tryd.func100.trans (congrArg some (by kernel_rfl))
  f246 := Tryd.func87.trans (congrArg some (by kernel_rfl))
  f247 := Tryd.func99.trans (congrArg some (by kernel_rfl))
  f279 := Tryd.func114.trans (congrArg some (by kernel_rfl))
  f280 := Tryd.func115.trans (congrArg some (by kernel_rfl))
  f281 := Tryd.func116.trans (congrArg some (by kernel_rfl))
  f282 := Tryd.func117.trans (congrArg some (by kernel_rfl))
  f283 := Tryd.func101.trans (congrArg some (by kernel_rfl))
  f284 := Tryd.func102.trans (congrArg some (by kernel_rfl))
  f285 := Tryd.func103.trans (congrArg some (by kernel_rfl))
  f286 := Tryd.func104.trans (congrArg some (by kernel_rfl))
  f287 := Tryd.func113.trans (congrArg some (by kernel_rfl))
  f316 := Tryd.func132.trans (congrArg some (by kernel_rfl))
  f317 := Tryd.func118.trans (congrArg some (by kernel_rfl))
  f318 := Tryd.func120.trans (congrArg some (by kernel_rfl))
  f319 := Tryd.func121.trans (congrArg some (by kernel_rfl))
  f320 := Tryd.func122.trans (congrArg some (by kernel_rfl))
  f321 := Tryd.func130.trans (congrArg some (by kernel_rfl))
  f322 := Tryd.func131.trans (congrArg some (by kernel_rfl))
  f337 := Tryd.func135.trans (congrArg some (by kernel_rfl))
  f338 := Tryd.func136.trans (congrArg some (by kernel_rfl))
  t0 := Tryd.underlying0
  a0 := Tryd.isAgg0
  z0 := Tryd.sizeOf0
  v0 := Tryd.zeroValue0
  t2 := Tryd.underlying2
  a2 := Tryd.isAgg2
  z2 := Tryd.sizeOf2
  v2 := Tryd.zeroValue2
  t3 := Tryd.underlying3
  a3 := Tryd.isAgg3
  z3 := Tryd.sizeOf3
  v3 := Tryd.zeroValue3
  t4 := Tryd.underlying4
  a4 := Tryd.isAgg4
  z4 := Tryd.sizeOf4
  v4 := Tryd.zeroValue4
  t5 := Tryd.underlying5
  a5 := Tryd.isAgg5
  z5 := Tryd.sizeOf5
  v5 := Tryd.zeroValue5
  t9 := Tryd.underlying9
  a9 := Tryd.isAgg9
  z9 := Tryd.sizeOf9
  v9 := Tryd.zeroValue9
  t20 := Tryd.underlying20
  a20 := Tryd.isAgg20
  z20 := Tryd.sizeOf20
  v20 := Tryd.zeroValue20
  t21 := Tryd.underlying21
  a21 := Tryd.isAgg21
  z21 := Tryd.sizeOf21
  v21 := Tryd.zeroValue21
  t37 := Tryd.underlying106
  a37 := Tryd.isAgg106
  z37 := Tryd.sizeOf106
  v37 := Tryd.zeroValue106
  t46 := Tryd.underlying139
  a46 := Tryd.isAgg139
  z46 := Tryd.sizeOf139
  v46 := Tryd.zeroValue139
  t51 := Tryd.underlying146
  a51 := Tryd.isAgg146
  z51 := Tryd.sizeOf146
  v51 := Tryd.zeroValue146
  t53 := Tryd.underlying125
  a53 := Tryd.isAgg125
  z53 := Tryd.sizeOf125
  v53 := Tryd.zeroValue125
  t75 := Tryd.underlying103
  a75 := Tryd.isAgg103
  z75 := Tryd.sizeOf103
  v75 := Tryd.zeroValue103
  t85 := Tryd.underlying104
  a85 := Tryd.isAgg104
  z85 := Tryd.sizeOf104
  v85 := Tryd.zeroValue104
  t127 := Tryd.underlying131
  a127 := Tryd.isAgg131
  z127 := Tryd.sizeOf131
  v127 := Tryd.zeroValue131
  t143 := Tryd.underlying165
  a143 := Tryd.isAgg165
  z143 := Tryd.sizeOf165
  v143 := Tryd.zeroValue165
  t145 := Tryd.underlying167
  a145 := Tryd.isAgg167
  z145 := Tryd.sizeOf167
  v145 := Tryd.zeroValue167
  t167 := Tryd.underlying136
  a167 := Tryd.isAgg136
  z167 := Tryd.sizeOf136
  v167 := Tryd.zeroValue136
  t168 := Tryd.underlying140
  a168 := Tryd.isAgg140
  z168 := Tryd.sizeOf140
  v168 := Tryd.zeroValue140
  t171 := Tryd.underlying124
  a171 := Tryd.isAgg124
  z171 := Tryd.sizeOf124
  v171 := Tryd.zeroValue124
  t173 := Tryd.underlying128
  a173 := Tryd.isAgg128
  z173 := Tryd.sizeOf128
  v173 := Tryd.zeroValue128
  t175 := Tryd.underlying137
  a175 := Tryd.isAgg137
  z175 := Tryd.sizeOf137
  v175 := Tryd.zeroValue137
  t210 := Tryd.underlying156
  a210 := Tryd.isAgg156
  z210 := Tryd.sizeOf156
  v210 := Tryd.zeroValue156
  t212 := Tryd.underlying145
  a212 := Tryd.isAgg145
  z212 := Tryd.sizeOf145
  v212 := Tryd.zeroValue145
  t213 := Tryd.underlying147
  a213 := Tryd.isAgg147
  z213 := Tryd.sizeOf147
  t232 := Tryd.underlying168
  a232 := Tryd.isAgg168
  z232 := Tryd.sizeOf168
  v232 := Tryd.zeroValue168
  t233 := Tryd.underlying169
  a233 := Tryd.isAgg169
  z233 := Tryd.sizeOf169
  v233 := Tryd.zeroValue169
  g15 := by kernel_rfl
  g16 := by kernel_rfl
  g17 := by kernel_rfl
  g18 := by kernel_rfl
  g19 := by kernel_rfl
  t80 := Tryd.underlying118
  a80 := Tryd.isAgg118
  z80 := Tryd.sizeOf118
  v80 := Tryd.zeroValue118
  i0 := by kernel_rfl
  i2 := by kernel_rfl
  i3 := by kernel_rfl
  i4 := by kernel_rfl
  i5 := by kernel_rfl
  i9 := by kernel_rfl
  i20 := by kernel_rfl
  i21 := by kernel_rfl
  i37 := by kernel_rfl
  i46 := by kernel_rfl
  i51 := by kernel_rfl
  i53 := by kernel_rfl
  i75 := by kernel_rfl
  i80 := by kernel_rfl
  i85 := by kernel_rfl
  i127 := by kernel_rfl
  i143 := by kernel_rfl
  i145 := by kernel_rfl
  i167 := by kernel_rfl
  i168 := by kernel_rfl
  i171 := by kernel_rfl
  i173 := by kernel_rfl
  i175 := by kernel_rfl
  i210 := by kernel_rfl
  i212 := by kernel_rfl
  i232 := by kernel_rfl
  i233 := by kernel_rfl
  m15 := by kernel_rfl
  m16 := by kernel_rfl
  m17 := by kernel_rfl
  m18 := by kernel_rfl
  m19 := by kernel_rfl
  c0 := by kernel_rfl
  c2 := by kernel_rfl
  c3 := by kernel_rfl
  c4 := by kernel_rfl
  c5 := by kernel_rfl
  c9 := by kernel_rfl
  c20 := by kernel_rfl
  c21 := by kernel_rfl
  c37 := by kernel_rfl
  c46 := by kernel_rfl
  c51 := by kernel_rfl
  c53 := by kernel_rfl
  c75 := by kernel_rfl
  c80 := by kernel_rfl
  c85 := by kernel_rfl
  c127 := by kernel_rfl
  c143 := by kernel_rfl
  c145 := by kernel_rfl
  c167 := by kernel_rfl
  c168 := by kernel_rfl
  c171 := by kernel_rfl
  c173 := by kernel_rfl
  c175 := by kernel_rfl
  c210 := by kernel_rfl
  c212 := by kernel_rfl
  c213 := by kernel_rfl
  c232 := by kernel_rfl
  c233 := by kernel_rfl }
open Go.RowKit in
/-- strconv.ParseInt(s, 10, 0), AT EVERY STRING THAT SPELLS AN int64 ('Lib.parseIntB 64 s.data.toList = .ok v'): v, AND NO ERROR. (LAID: no walk: one application.) -/
theorem Tryd.strconv_ParseInt_10_at0_ok (s : ByteArray) (hmax : s.size ≤ 9223372036854775806) (v : Int) (h : Lib.parseIntB 64 s.data.toList = .ok v) (w : World) :
    Calls Tryd.prog 80 #[.string s, .int .i64 10, .int .i64 0] w fun e w' => e = .returned (.tuple #[.int .i64 v, .nilIface]) ∧ (w' = w ∨ ∃ t, w' = Lib.bytesWorld w 5 t) := Any.strconv_ParseInt_10_at0_ok Tryd.laysC174 s hmax v h w
open Go.RowKit in
/-- strconv.ParseInt(s, 10, 0), AT EVERY STRING THAT IS NO DECIMAL NUMERAL: 0, AND AN ERROR THAT IS NOT nil: a *NumError in a new block N: {Func: "ParseInt", Num: s's bytes, Err: what the variable ErrSyntax holds}. Of what was there nothing has turned. (LAID: no walk: one application.) -/
theorem Tryd.strconv_ParseInt_10_at0_syntax (s : ByteArray) (hlim : s.size ≤ 281474976710656) (h : Lib.parseIntB 64 s.data.toList = .«syntax») (ev : Value) (w : World) (hv : w.cell? ⟨2, 0, none⟩ = some ev) (hev : ev = .nilIface ∨ ∃ te pe, ev = .iface te pe) :
    Calls Tryd.prog 80 #[.string s, .int .i64 10, .int .i64 0] w fun e w' => ∃ N, e = .returned (.tuple #[.int .i64 (0), .iface 140 (.pointer (some ⟨N, 0, none⟩))]) ∧ w.heap.size ≤ N ∧ w'.heap[N]? = some (.cells #[.string ⟨#[80, 97, 114, 115, 101, 73, 110, 116]⟩, .string s, ev] 156 (0, 0)) ∧ Below w.heap.size w w' := Any.strconv_ParseInt_10_at0_syntax Tryd.laysC174 s hlim h ev w hv hev
open Go.RowKit in
/-- strconv.ParseInt(s, 10, 0), AT EVERY NUMERAL THAT NO int64 HOLDS: THE GREATEST OR THE LEAST int64, BY THE SIGN ('Lib.intSat 64'), AND AN ERROR THAT IS NOT nil: a *NumError in a new block N: {Func: "ParseInt", Num: s's bytes, Err: what the variable ErrRange holds}. Of what was there nothing has turned. (LAID: no walk: one application.) -/
theorem Tryd.strconv_ParseInt_10_at0_range (s : ByteArray) (hlim : s.size ≤ 281474976710656) (h : Lib.parseIntB 64 s.data.toList = .range) (ev : Value) (w : World) (hv : w.cell? ⟨3, 0, none⟩ = some ev) (hev : ev = .nilIface ∨ ∃ te pe, ev = .iface te pe) :
    Calls Tryd.prog 80 #[.string s, .int .i64 10, .int .i64 0] w fun e w' => ∃ N, e = .returned (.tuple #[.int .i64 (Lib.intSat 64 s.data.toList), .iface 140 (.pointer (some ⟨N, 0, none⟩))]) ∧ w.heap.size ≤ N ∧ w'.heap[N]? = some (.cells #[.string ⟨#[80, 97, 114, 115, 101, 73, 110, 116]⟩, .string s, ev] 156 (0, 0)) ∧ Below w.heap.size w w' := Any.strconv_ParseInt_10_at0_range Tryd.laysC174 s hlim h ev w hv hev
open Go.RowKit in
/-- strconv.ParseInt(s, 10, 64), AT EVERY STRING THAT SPELLS AN int64 ('Lib.parseIntB 64 s.data.toList = .ok v'): v, AND NO ERROR. (LAID: no walk: one application.) -/
theorem Tryd.strconv_ParseInt_10_at64_ok (s : ByteArray) (hmax : s.size ≤ 9223372036854775806) (v : Int) (h : Lib.parseIntB 64 s.data.toList = .ok v) (w : World) :
    Calls Tryd.prog 80 #[.string s, .int .i64 10, .int .i64 64] w fun e w' => e = .returned (.tuple #[.int .i64 v, .nilIface]) ∧ (w' = w ∨ ∃ t, w' = Lib.bytesWorld w 5 t) := Any.strconv_ParseInt_10_at64_ok Tryd.laysC174 s hmax v h w
open Go.RowKit in
/-- strconv.ParseInt(s, 10, 64), AT EVERY STRING THAT IS NO DECIMAL NUMERAL: 0, AND AN ERROR THAT IS NOT nil: a *NumError in a new block N: {Func: "ParseInt", Num: s's bytes, Err: what the variable ErrSyntax holds}. Of what was there nothing has turned. (LAID: no walk: one application.) -/
theorem Tryd.strconv_ParseInt_10_at64_syntax (s : ByteArray) (hlim : s.size ≤ 281474976710656) (h : Lib.parseIntB 64 s.data.toList = .«syntax») (ev : Value) (w : World) (hv : w.cell? ⟨2, 0, none⟩ = some ev) (hev : ev = .nilIface ∨ ∃ te pe, ev = .iface te pe) :
    Calls Tryd.prog 80 #[.string s, .int .i64 10, .int .i64 64] w fun e w' => ∃ N, e = .returned (.tuple #[.int .i64 (0), .iface 140 (.pointer (some ⟨N, 0, none⟩))]) ∧ w.heap.size ≤ N ∧ w'.heap[N]? = some (.cells #[.string ⟨#[80, 97, 114, 115, 101, 73, 110, 116]⟩, .string s, ev] 156 (0, 0)) ∧ Below w.heap.size w w' := Any.strconv_ParseInt_10_at64_syntax Tryd.laysC174 s hlim h ev w hv hev
open Go.RowKit in
/-- strconv.ParseInt(s, 10, 64), AT EVERY NUMERAL THAT NO int64 HOLDS: THE GREATEST OR THE LEAST int64, BY THE SIGN ('Lib.intSat 64'), AND AN ERROR THAT IS NOT nil: a *NumError in a new block N: {Func: "ParseInt", Num: s's bytes, Err: what the variable ErrRange holds}. Of what was there nothing has turned. (LAID: no walk: one application.) -/
theorem Tryd.strconv_ParseInt_10_at64_range (s : ByteArray) (hlim : s.size ≤ 281474976710656) (h : Lib.parseIntB 64 s.data.toList = .range) (ev : Value) (w : World) (hv : w.cell? ⟨3, 0, none⟩ = some ev) (hev : ev = .nilIface ∨ ∃ te pe, ev = .iface te pe) :
    Calls Tryd.prog 80 #[.string s, .int .i64 10, .int .i64 64] w fun e w' => ∃ N, e = .returned (.tuple #[.int .i64 (Lib.intSat 64 s.data.toList), .iface 140 (.pointer (some ⟨N, 0, none⟩))]) ∧ w.heap.size ≤ N ∧ w'.heap[N]? = some (.cells #[.string ⟨#[80, 97, 114, 115, 101, 73, 110, 116]⟩, .string s, ev] 156 (0, 0)) ∧ Below w.heap.size w w' := Any.strconv_ParseInt_10_at64_range Tryd.laysC174 s hlim h ev w hv hev
open Go.RowKit in
/-- strconv.ParseInt(s, 10, 32), AT EVERY STRING THAT SPELLS AN int32 ('Lib.parseIntB 32 s.data.toList = .ok v'): v, AND NO ERROR. (LAID: no walk: one application.) -/
theorem Tryd.strconv_ParseInt_10_at32_ok (s : ByteArray) (hmax : s.size ≤ 9223372036854775806) (v : Int) (h : Lib.parseIntB 32 s.data.toList = .ok v) (w : World) :
    Calls Tryd.prog 80 #[.string s, .int .i64 10, .int .i64 32] w fun e w' => e = .returned (.tuple #[.int .i64 v, .nilIface]) ∧ (w' = w ∨ ∃ t, w' = Lib.bytesWorld w 5 t) := Any.strconv_ParseInt_10_at32_ok Tryd.laysC174 s hmax v h w
open Go.RowKit in
/-- strconv.ParseInt(s, 10, 32), AT EVERY STRING THAT IS NO DECIMAL NUMERAL: 0, AND AN ERROR THAT IS NOT nil: a *NumError in a new block N: {Func: "ParseInt", Num: s's bytes, Err: what the variable ErrSyntax holds}. Of what was there nothing has turned. (LAID: no walk: one application.) -/
theorem Tryd.strconv_ParseInt_10_at32_syntax (s : ByteArray) (hlim : s.size ≤ 281474976710656) (h : Lib.parseIntB 32 s.data.toList = .«syntax») (ev : Value) (w : World) (hv : w.cell? ⟨2, 0, none⟩ = some ev) (hev : ev = .nilIface ∨ ∃ te pe, ev = .iface te pe) :
    Calls Tryd.prog 80 #[.string s, .int .i64 10, .int .i64 32] w fun e w' => ∃ N, e = .returned (.tuple #[.int .i64 (0), .iface 140 (.pointer (some ⟨N, 0, none⟩))]) ∧ w.heap.size ≤ N ∧ w'.heap[N]? = some (.cells #[.string ⟨#[80, 97, 114, 115, 101, 73, 110, 116]⟩, .string s, ev] 156 (0, 0)) ∧ Below w.heap.size w w' := Any.strconv_ParseInt_10_at32_syntax Tryd.laysC174 s hlim h ev w hv hev
open Go.RowKit in
/-- strconv.ParseInt(s, 10, 32), AT EVERY NUMERAL THAT NO int32 HOLDS: THE GREATEST OR THE LEAST int32, BY THE SIGN ('Lib.intSat 32'), AND AN ERROR THAT IS NOT nil: a *NumError in a new block N: {Func: "ParseInt", Num: s's bytes, Err: what the variable ErrRange holds}. Of what was there nothing has turned. (LAID: no walk: one application.) -/
theorem Tryd.strconv_ParseInt_10_at32_range (s : ByteArray) (hlim : s.size ≤ 281474976710656) (h : Lib.parseIntB 32 s.data.toList = .range) (ev : Value) (w : World) (hv : w.cell? ⟨3, 0, none⟩ = some ev) (hev : ev = .nilIface ∨ ∃ te pe, ev = .iface te pe) :
    Calls Tryd.prog 80 #[.string s, .int .i64 10, .int .i64 32] w fun e w' => ∃ N, e = .returned (.tuple #[.int .i64 (Lib.intSat 32 s.data.toList), .iface 140 (.pointer (some ⟨N, 0, none⟩))]) ∧ w.heap.size ≤ N ∧ w'.heap[N]? = some (.cells #[.string ⟨#[80, 97, 114, 115, 101, 73, 110, 116]⟩, .string s, ev] 156 (0, 0)) ∧ Below w.heap.size w w' := Any.strconv_ParseInt_10_at32_range Tryd.laysC174 s hlim h ev w hv hev
open Go.RowKit in
/-- strconv.ParseInt(s, 10, 16), AT EVERY STRING THAT SPELLS AN int16 ('Lib.parseIntB 16 s.data.toList = .ok v'): v, AND NO ERROR. (LAID: no walk: one application.) -/
theorem Tryd.strconv_ParseInt_10_at16_ok (s : ByteArray) (hmax : s.size ≤ 9223372036854775806) (v : Int) (h : Lib.parseIntB 16 s.data.toList = .ok v) (w : World) :
    Calls Tryd.prog 80 #[.string s, .int .i64 10, .int .i64 16] w fun e w' => e = .returned (.tuple #[.int .i64 v, .nilIface]) ∧ (w' = w ∨ ∃ t, w' = Lib.bytesWorld w 5 t) := Any.strconv_ParseInt_10_at16_ok Tryd.laysC174 s hmax v h w
open Go.RowKit in
/-- strconv.ParseInt(s, 10, 16), AT EVERY STRING THAT IS NO DECIMAL NUMERAL: 0, AND AN ERROR THAT IS NOT nil: a *NumError in a new block N: {Func: "ParseInt", Num: s's bytes, Err: what the variable ErrSyntax holds}. Of what was there nothing has turned. (LAID: no walk: one application.) -/
theorem Tryd.strconv_ParseInt_10_at16_syntax (s : ByteArray) (hlim : s.size ≤ 281474976710656) (h : Lib.parseIntB 16 s.data.toList = .«syntax») (ev : Value) (w : World) (hv : w.cell? ⟨2, 0, none⟩ = some ev) (hev : ev = .nilIface ∨ ∃ te pe, ev = .iface te pe) :
    Calls Tryd.prog 80 #[.string s, .int .i64 10, .int .i64 16] w fun e w' => ∃ N, e = .returned (.tuple #[.int .i64 (0), .iface 140 (.pointer (some ⟨N, 0, none⟩))]) ∧ w.heap.size ≤ N ∧ w'.heap[N]? = some (.cells #[.string ⟨#[80, 97, 114, 115, 101, 73, 110, 116]⟩, .string s, ev] 156 (0, 0)) ∧ Below w.heap.size w w' := Any.strconv_ParseInt_10_at16_syntax Tryd.laysC174 s hlim h ev w hv hev
open Go.RowKit in
/-- strconv.ParseInt(s, 10, 16), AT EVERY NUMERAL THAT NO int16 HOLDS: THE GREATEST OR THE LEAST int16, BY THE SIGN ('Lib.intSat 16'), AND AN ERROR THAT IS NOT nil: a *NumError in a new block N: {Func: "ParseInt", Num: s's bytes, Err: what the variable ErrRange holds}. Of what was there nothing has turned. (LAID: no walk: one application.) -/
theorem Tryd.strconv_ParseInt_10_at16_range (s : ByteArray) (hlim : s.size ≤ 281474976710656) (h : Lib.parseIntB 16 s.data.toList = .range) (ev : Value) (w : World) (hv : w.cell? ⟨3, 0, none⟩ = some ev) (hev : ev = .nilIface ∨ ∃ te pe, ev = .iface te pe) :
    Calls Tryd.prog 80 #[.string s, .int .i64 10, .int .i64 16] w fun e w' => ∃ N, e = .returned (.tuple #[.int .i64 (Lib.intSat 16 s.data.toList), .iface 140 (.pointer (some ⟨N, 0, none⟩))]) ∧ w.heap.size ≤ N ∧ w'.heap[N]? = some (.cells #[.string ⟨#[80, 97, 114, 115, 101, 73, 110, 116]⟩, .string s, ev] 156 (0, 0)) ∧ Below w.heap.size w w' := Any.strconv_ParseInt_10_at16_range Tryd.laysC174 s hlim h ev w hv hev
open Go.RowKit in
/-- strconv.ParseInt(s, 10, 8), AT EVERY STRING THAT SPELLS AN int8 ('Lib.parseIntB 8 s.data.toList = .ok v'): v, AND NO ERROR. (LAID: no walk: one application.) -/
theorem Tryd.strconv_ParseInt_10_at8_ok (s : ByteArray) (hmax : s.size ≤ 9223372036854775806) (v : Int) (h : Lib.parseIntB 8 s.data.toList = .ok v) (w : World) :
    Calls Tryd.prog 80 #[.string s, .int .i64 10, .int .i64 8] w fun e w' => e = .returned (.tuple #[.int .i64 v, .nilIface]) ∧ (w' = w ∨ ∃ t, w' = Lib.bytesWorld w 5 t) := Any.strconv_ParseInt_10_at8_ok Tryd.laysC174 s hmax v h w
open Go.RowKit in
/-- strconv.ParseInt(s, 10, 8), AT EVERY STRING THAT IS NO DECIMAL NUMERAL: 0, AND AN ERROR THAT IS NOT nil: a *NumError in a new block N: {Func: "ParseInt", Num: s's bytes, Err: what the variable ErrSyntax holds}. Of what was there nothing has turned. (LAID: no walk: one application.) -/
theorem Tryd.strconv_ParseInt_10_at8_syntax (s : ByteArray) (hlim : s.size ≤ 281474976710656) (h : Lib.parseIntB 8 s.data.toList = .«syntax») (ev : Value) (w : World) (hv : w.cell? ⟨2, 0, none⟩ = some ev) (hev : ev = .nilIface ∨ ∃ te pe, ev = .iface te pe) :
    Calls Tryd.prog 80 #[.string s, .int .i64 10, .int .i64 8] w fun e w' => ∃ N, e = .returned (.tuple #[.int .i64 (0), .iface 140 (.pointer (some ⟨N, 0, none⟩))]) ∧ w.heap.size ≤ N ∧ w'.heap[N]? = some (.cells #[.string ⟨#[80, 97, 114, 115, 101, 73, 110, 116]⟩, .string s, ev] 156 (0, 0)) ∧ Below w.heap.size w w' := Any.strconv_ParseInt_10_at8_syntax Tryd.laysC174 s hlim h ev w hv hev
open Go.RowKit in
/-- strconv.ParseInt(s, 10, 8), AT EVERY NUMERAL THAT NO int8 HOLDS: THE GREATEST OR THE LEAST int8, BY THE SIGN ('Lib.intSat 8'), AND AN ERROR THAT IS NOT nil: a *NumError in a new block N: {Func: "ParseInt", Num: s's bytes, Err: what the variable ErrRange holds}. Of what was there nothing has turned. (LAID: no walk: one application.) -/
theorem Tryd.strconv_ParseInt_10_at8_range (s : ByteArray) (hlim : s.size ≤ 281474976710656) (h : Lib.parseIntB 8 s.data.toList = .range) (ev : Value) (w : World) (hv : w.cell? ⟨3, 0, none⟩ = some ev) (hev : ev = .nilIface ∨ ∃ te pe, ev = .iface te pe) :
    Calls Tryd.prog 80 #[.string s, .int .i64 10, .int .i64 8] w fun e w' => ∃ N, e = .returned (.tuple #[.int .i64 (Lib.intSat 8 s.data.toList), .iface 140 (.pointer (some ⟨N, 0, none⟩))]) ∧ w.heap.size ≤ N ∧ w'.heap[N]? = some (.cells #[.string ⟨#[80, 97, 114, 115, 101, 73, 110, 116]⟩, .string s, ev] 156 (0, 0)) ∧ Below w.heap.size w w' := Any.strconv_ParseInt_10_at8_range Tryd.laysC174 s hlim h ev w hv hev
def Tryd.lays138_ren : Go.Shelf.Ren := ⟨fun | 138 => 97 | 195 => 109 | 218 => 111 | 143 => 98 | 219 => 112 | 217 => 126 | 225 => 127 | 224 => 128 | 267 => 129 | 266 => 137 | 314 => 138 | n => n, fun | 9 => 9 | 3 => 3 | 4 => 4 | 5 => 5 | 0 => 0 | 46 => 139 | 146 => 163 | 51 => 146 | n => n, fun | 1 => 1 | n => n⟩
theorem Tryd.lays138 : Go.Proofs.Lays.n138 Tryd.prog Tryd.lays138_ren := {
  mixed := by kernel_rfl
  f138 := Tryd.func97.trans (congrArg some (by kernel_rfl))
  f143 := Tryd.func98.trans (congrArg some (by kernel_rfl))
  f195 := Tryd.func109.trans (congrArg some (by kernel_rfl))
  f217 := Tryd.func126.trans (congrArg some (by kernel_rfl))
  f218 := Tryd.func111.trans (congrArg some (by kernel_rfl))
  f219 := Tryd.func112.trans (congrArg some (by kernel_rfl))
  f224 := Tryd.func128.trans (congrArg some (by kernel_rfl))
  f225 := Tryd.func127.trans (congrArg some (by kernel_rfl))
  f266 := Tryd.func137.trans (congrArg some (by kernel_rfl))
  f267 := Tryd.func129.trans (congrArg some (by kernel_rfl))
  f314 := Tryd.func138.trans (congrArg some (by kernel_rfl))
  t0 := Tryd.underlying0
  a0 := Tryd.isAgg0
  z0 := Tryd.sizeOf0
  v0 := Tryd.zeroValue0
  t3 := Tryd.underlying3
  a3 := Tryd.isAgg3
  z3 := Tryd.sizeOf3
  v3 := Tryd.zeroValue3
  t4 := Tryd.underlying4
  a4 := Tryd.isAgg4
  z4 := Tryd.sizeOf4
  v4 := Tryd.zeroValue4
  t5 := Tryd.underlying5
  a5 := Tryd.isAgg5
  z5 := Tryd.sizeOf5
  v5 := Tryd.zeroValue5
  t9 := Tryd.underlying9
  a9 := Tryd.isAgg9
  z9 := Tryd.sizeOf9
  v9 := Tryd.zeroValue9
  t46 := Tryd.underlying139
  a46 := Tryd.isAgg139
  z46 := Tryd.sizeOf139
  v46 := Tryd.zeroValue139
  t51 := Tryd.underlying146
  a51 := Tryd.isAgg146
  z51 := Tryd.sizeOf146
  v51 := Tryd.zeroValue146
  t146 := Tryd.underlying163
  a146 := Tryd.isAgg163
  z146 := Tryd.sizeOf163
  v146 := Tryd.zeroValue163
  g1 := by kernel_rfl }
open Go.RowKit Go.Lib in
/-- strings.Count at whatever sep that is not empty: the two roads under one statement. (LAID: no walk: one application.) -/
theorem Tryd.strings_Count_any (s sep : ByteArray) (m : Int) (w : World) (hs : s.size < 4294967281) (hm : w.cell? ⟨1, 0, none⟩ = some (.int .i64 m)) (h1 : 1 ≤ sep.size) :
    Calls Tryd.prog 97 #[.string s, .string sep] w fun e w' => e = .returned (.int .i64 (Lib.countB s sep)) ∧ w' = w := Any.strings_Count_any Tryd.lays138 s sep m w hs hm h1
def Tryd.lays221_ren : Go.Shelf.Ren := ⟨fun | 221 => 79 | 268 => 96 | 138 => 97 | 143 => 98 | 195 => 109 | 197 => 110 | 218 => 111 | 219 => 112 | 260 => 125 | 217 => 126 | 225 => 127 | 224 => 128 | 267 => 129 | 266 => 137 | 314 => 138 | n => n, fun | 9 => 9 | 3 => 3 | 31 => 81 | 4 => 4 | 0 => 0 | 105 => 133 | 21 => 21 | 5 => 5 | 46 => 139 | 119 => 159 | 139 => 162 | 138 => 161 | 146 => 163 | 51 => 146 | n => n, fun | 1 => 1 | 3 => 4 | 4 => 5 | n => n⟩
theorem Tryd.lays221 : Go.Proofs.Lays.n221 Tryd.prog Tryd.lays221_ren := {
  mixed := by kernel_rfl
  f138 := Tryd.func97.trans (congrArg some (by kernel_rfl))
  f143 := Tryd.func98.trans (congrArg some (by kernel_rfl))
  f195 := Tryd.func109.trans (congrArg some (by kernel_rfl))
  f197 := Tryd.func110.trans (congrArg some (by kernel_rfl))
  f217 := Tryd.func126.trans (congrArg some (by kernel_rfl))
  f218 := Tryd.func111.trans (congrArg some (by kernel_rfl))
  f219 := Tryd.func112.trans (congrArg some (by kernel_rfl))
  f221 := Tryd.func79.trans (congrArg some (by kernel_rfl))
  f224 := Tryd.func128.trans (congrArg some (by kernel_rfl))
  f225 := Tryd.func127.trans (congrArg some (by kernel_rfl))
  f260 := Tryd.func125.trans (congrArg some (by kernel_rfl))
  f266 := Tryd.func137.trans (congrArg some (by kernel_rfl))
  f267 := Tryd.func129.trans (congrArg some (by kernel_rfl))
  f268 := Tryd.func96.trans (congrArg some (by kernel_rfl))
  f314 := Tryd.func138.trans (congrArg some (by kernel_rfl))
  t0 := Tryd.underlying0
  a0 := Tryd.isAgg0
  z0 := Tryd.sizeOf0
  v0 := Tryd.zeroValue0
  t3 := Tryd.underlying3
  a3 := Tryd.isAgg3
  z3 := Tryd.sizeOf3
  v3 := Tryd.zeroValue3
  t4 := Tryd.underlying4
  a4 := Tryd.isAgg4
  z4 := Tryd.sizeOf4
  v4 := Tryd.zeroValue4
  t5 := Tryd.underlying5
  a5 := Tryd.isAgg5
  z5 := Tryd.sizeOf5
  v5 := Tryd.zeroValue5
  t9 := Tryd.underlying9
  a9 := Tryd.isAgg9
  z9 := Tryd.sizeOf9
  v9 := Tryd.zeroValue9
  t21 := Tryd.underlying21
  a21 := Tryd.isAgg21
  z21 := Tryd.sizeOf21
  v21 := Tryd.zeroValue21
  t31 := Tryd.underlying81
  a31 := Tryd.isAgg81
  z31 := Tryd.sizeOf81
  v31 := Tryd.zeroValue81
  t46 := Tryd.underlying139
  a46 := Tryd.isAgg139
  z46 := Tryd.sizeOf139
  v46 := Tryd.zeroValue139
  t51 := Tryd.underlying146
  a51 := Tryd.isAgg146
  z51 := Tryd.sizeOf146
  v51 := Tryd.zeroValue146
  t105 := Tryd.underlying133
  a105 := Tryd.isAgg133
  z105 := Tryd.sizeOf133
  v105 := Tryd.zeroValue133
  t119 := Tryd.underlying159
  a119 := Tryd.isAgg159
  z119 := Tryd.sizeOf159
  t138 := Tryd.underlying161
  a138 := Tryd.isAgg161
  z138 := Tryd.sizeOf161
  v138 := Tryd.zeroValue161
  t139 := Tryd.underlying162
  a139 := Tryd.isAgg162
  z139 := Tryd.sizeOf162
  v139 := Tryd.zeroValue162
  t146 := Tryd.underlying163
  a146 := Tryd.isAgg163
  z146 := Tryd.sizeOf163
  v146 := Tryd.zeroValue163
  g1 := by kernel_rfl
  g3 := by kernel_rfl
  g4 := by kernel_rfl }
open Go.RowKit Go.Lib in
theorem Tryd.strings_genSplit (s sep : ByteArray) (sv : Nat) (n : Int) (N : Nat) (m : Int) (w : World) (hs : s.size < 4294967281) (hm : w.cell? ⟨1, 0, none⟩ = some (.int .i64 m)) (h1 : 1 ≤ sep.size) (hsv : sv ≤ sep.size) (hn0 : n ≠ 0) (hn63 : n ≤ 9223372036854775807) (hN : (N : Int) = min (if n < 0 then (Lib.countB s sep : Int) + 1 else n) ((s.size : Int) + 1)) :
    Calls Tryd.prog 79 #[.string s, .string sep, .int .i64 sv, .int .i64 n] w fun e w' =>
      e = .returned (.slice (some ⟨w.heap.size, 0, none⟩) (Lib.splitB sep sv (N - 1) s).length N) ∧ w' = w.alloc (.cells (Lib.cellsOf (Lib.splitB sep sv (N - 1) s) N) 9) := Any.strings_genSplit Tryd.lays221 (by kernel_rfl) s sep sv n N m w hs hm h1 hsv hn0 hn63 hN
def Tryd.lays146_ren : Go.Shelf.Ren := ⟨fun | 146 => 55 | 221 => 79 | 268 => 96 | 138 => 97 | 143 => 98 | 195 => 109 | 197 => 110 | 218 => 111 | 219 => 112 | 260 => 125 | 217 => 126 | 225 => 127 | 224 => 128 | 267 => 129 | 266 => 137 | 314 => 138 | n => n, fun | 9 => 9 | 31 => 81 | 3 => 3 | 4 => 4 | 0 => 0 | 105 => 133 | 21 => 21 | 5 => 5 | 46 => 139 | 119 => 159 | 139 => 162 | 138 => 161 | 146 => 163 | 51 => 146 | n => n, fun | 1 => 1 | 3 => 4 | 4 => 5 | n => n⟩
theorem Tryd.lays146 : Go.Proofs.Lays.n146 Tryd.prog Tryd.lays146_ren := {
  mixed := by kernel_rfl
  f138 := Tryd.func97.trans (congrArg some (by kernel_rfl))
  f143 := Tryd.func98.trans (congrArg some (by kernel_rfl))
  f146 := Tryd.func55.trans (congrArg some (by kernel_rfl))
  f195 := Tryd.func109.trans (congrArg some (by kernel_rfl))
  f197 := Tryd.func110.trans (congrArg some (by kernel_rfl))
  f217 := Tryd.func126.trans (congrArg some (by kernel_rfl))
  f218 := Tryd.func111.trans (congrArg some (by kernel_rfl))
  f219 := Tryd.func112.trans (congrArg some (by kernel_rfl))
  f221 := Tryd.func79.trans (congrArg some (by kernel_rfl))
  f224 := Tryd.func128.trans (congrArg some (by kernel_rfl))
  f225 := Tryd.func127.trans (congrArg some (by kernel_rfl))
  f260 := Tryd.func125.trans (congrArg some (by kernel_rfl))
  f266 := Tryd.func137.trans (congrArg some (by kernel_rfl))
  f267 := Tryd.func129.trans (congrArg some (by kernel_rfl))
  f268 := Tryd.func96.trans (congrArg some (by kernel_rfl))
  f314 := Tryd.func138.trans (congrArg some (by kernel_rfl))
  t0 := Tryd.underlying0
  a0 := Tryd.isAgg0
  z0 := Tryd.sizeOf0
  v0 := Tryd.zeroValue0
  t3 := Tryd.underlying3
  a3 := Tryd.isAgg3
  z3 := Tryd.sizeOf3
  v3 := Tryd.zeroValue3
  t4 := Tryd.underlying4
  a4 := Tryd.isAgg4
  z4 := Tryd.sizeOf4
  v4 := Tryd.zeroValue4
  t5 := Tryd.underlying5
  a5 := Tryd.isAgg5
  z5 := Tryd.sizeOf5
  v5 := Tryd.zeroValue5
  t9 := Tryd.underlying9
  a9 := Tryd.isAgg9
  z9 := Tryd.sizeOf9
  v9 := Tryd.zeroValue9
  t21 := Tryd.underlying21
  a21 := Tryd.isAgg21
  z21 := Tryd.sizeOf21
  v21 := Tryd.zeroValue21
  t31 := Tryd.underlying81
  a31 := Tryd.isAgg81
  z31 := Tryd.sizeOf81
  v31 := Tryd.zeroValue81
  t46 := Tryd.underlying139
  a46 := Tryd.isAgg139
  z46 := Tryd.sizeOf139
  v46 := Tryd.zeroValue139
  t51 := Tryd.underlying146
  a51 := Tryd.isAgg146
  z51 := Tryd.sizeOf146
  v51 := Tryd.zeroValue146
  t105 := Tryd.underlying133
  a105 := Tryd.isAgg133
  z105 := Tryd.sizeOf133
  v105 := Tryd.zeroValue133
  t119 := Tryd.underlying159
  a119 := Tryd.isAgg159
  z119 := Tryd.sizeOf159
  t138 := Tryd.underlying161
  a138 := Tryd.isAgg161
  z138 := Tryd.sizeOf161
  v138 := Tryd.zeroValue161
  t139 := Tryd.underlying162
  a139 := Tryd.isAgg162
  z139 := Tryd.sizeOf162
  v139 := Tryd.zeroValue162
  t146 := Tryd.underlying163
  a146 := Tryd.isAgg163
  z146 := Tryd.sizeOf163
  v146 := Tryd.zeroValue163
  g1 := by kernel_rfl
  g3 := by kernel_rfl
  g4 := by kernel_rfl }
open Go.RowKit Go.Lib in
/-- strings.Split. (LAID: no walk: one application.) -/
theorem Tryd.strings_Split (s sep : ByteArray) (m : Int) (w : World) (hs : s.size < 4294967281) (hm : w.cell? ⟨1, 0, none⟩ = some (.int .i64 m)) (h1 : 1 ≤ sep.size) :
    Calls Tryd.prog 55 #[.string s, .string sep] w fun e w' =>
      e = .returned (.slice (some ⟨w.heap.size, 0, none⟩) (Lib.countB s sep + 1) (Lib.countB s sep + 1)) ∧ w' = w.alloc (.cells ((Lib.splitB sep 0 (Lib.countB s sep) s).map Value.string).toArray 9) := Any.strings_Split Tryd.lays146 (by kernel_rfl) s sep m w hs hm h1
end Go.Proofs
