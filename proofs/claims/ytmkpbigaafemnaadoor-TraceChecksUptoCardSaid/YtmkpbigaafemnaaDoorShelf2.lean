/- Lemmas of this proof. No condition beyond each theorem's own. -/
import Derived.Test.YtmkpbigaafemnaaDoorShelf
import Derived.Shelf.Strconv.ParseIntPublic10
set_option linter.unusedSimpArgs false
set_option linter.unusedVariables false
set_option linter.unusedSectionVars false
/-
  DERIVED: THE SHELF's CONTRACTS AT THIS DUMP (tools/lay-plain.mjs out of what tools/lay-shelf.mjs wrote), of strconv.ParseInt.
-/
namespace Go.Proofs
open Go.Shelf
def Tryd.laysC174_ren : Go.Shelf.Ren := ⟨fun | 174 => 107 | 247 => 120 | 245 => 121 | 287 => 132 | 279 => 133 | 280 => 134 | 281 => 135 | 282 => 136 | 321 => 143 | 322 => 144 | 316 => 145 | 171 => 83 | 205 => 146 | 243 => 100 | 246 => 98 | 283 => 114 | 284 => 115 | 285 => 116 | 286 => 117 | 129 => 128 | 317 => 127 | 318 => 129 | 319 => 130 | 320 => 131 | 337 => 141 | 338 => 142 | n => n, fun | 9 => 9 | 3 => 3 | 2 => 2 | 75 => 125 | 85 => 155 | 4 => 4 | 167 => 180 | 5 => 5 | 53 => 136 | 175 => 181 | 46 => 150 | 168 => 183 | 37 => 80 | 0 => 0 | 210 => 190 | 21 => 21 | 127 => 146 | 145 => 199 | 143 => 197 | 171 => 161 | 173 => 164 | 212 => 176 | 51 => 129 | 20 => 20 | 213 => 177 | 232 => 23 | 233 => 196 | 80 => 106 | n => n, fun | 15 => 1 | 16 => 2 | 17 => 0 | 18 => 6 | 19 => 7 | n => n⟩
theorem Tryd.laysC174 : Go.Proofs.LaysC.n174 Tryd.prog Tryd.laysC174_ren := {
  mixed := by kernel_rfl
  f129 := Tryd.func128.trans (congrArg some (by kernel_rfl))
  f171 := Tryd.func83.trans (congrArg some (by kernel_rfl))
  f174 := Tryd.func107.trans (congrArg some (by kernel_rfl))
  f205 := Tryd.func146.trans (congrArg some (by kernel_rfl))
  f243 := Tryd.func100.trans (congrArg some (by kernel_rfl))
  f245 := Tryd.func121.trans (congrArg some (by kernel_rfl))
  f246 := Tryd.func98.trans (congrArg some (by kernel_rfl))
  f247 := Tryd.func120.trans (congrArg some (by kernel_rfl))
  f279 := Tryd.func133.trans (congrArg some (by kernel_rfl))
  f280 := Tryd.func134.trans (congrArg some (by kernel_rfl))
  f281 := Tryd.func135.trans (congrArg some (by kernel_rfl))
  f282 := Tryd.func136.trans (congrArg some (by kernel_rfl))
  f283 := Tryd.func114.trans (congrArg some (by kernel_rfl))
  f284 := Tryd.func115.trans (congrArg some (by kernel_rfl))
  f285 := Tryd.func116.trans (congrArg some (by kernel_rfl))
  f286 := Tryd.func117.trans (congrArg some (by kernel_rfl))
  f287 := Tryd.func132.trans (congrArg some (by kernel_rfl))
  f316 := Tryd.func145.trans (congrArg some (by kernel_rfl))
  f317 := Tryd.func127.trans (congrArg some (by kernel_rfl))
  f318 := Tryd.func129.trans (congrArg some (by kernel_rfl))
  f319 := Tryd.func130.trans (congrArg some (by kernel_rfl))
  f320 := Tryd.func131.trans (congrArg some (by kernel_rfl))
  f321 := Tryd.func143.trans (congrArg some (by kernel_rfl))
  f322 := Tryd.func144.trans (congrArg some (by kernel_rfl))
  f337 := Tryd.func141.trans (congrArg some (by kernel_rfl))
  f338 := Tryd.func142.trans (congrArg some (by kernel_rfl))
  t0 := Tryd.underlying0
  a0 := Tryd.isAgg0
  z0 := Tryd.sizeOf0
  v0 := Tryd.zeroValue0
  t2 := Tryd.underlying2
  a2 := Tryd.isAgg2
  z2 := Tryd.sizeOf2
  v2 := Tryd.zeroValue2
  t3 := Tryd.underlying3
  a3 := Tryd.isAgg3
  z3 := Tryd.sizeOf3
  v3 := Tryd.zeroValue3
  t4 := Tryd.underlying4
  a4 := Tryd.isAgg4
  z4 := Tryd.sizeOf4
  v4 := Tryd.zeroValue4
  t5 := Tryd.underlying5
  a5 := Tryd.isAgg5
  z5 := Tryd.sizeOf5
  v5 := Tryd.zeroValue5
  t9 := Tryd.underlying9
  a9 := Tryd.isAgg9
  z9 := Tryd.sizeOf9
  v9 := Tryd.zeroValue9
  t20 := Tryd.underlying20
  a20 := Tryd.isAgg20
  z20 := Tryd.sizeOf20
  v20 := Tryd.zeroValue20
  t21 := Tryd.underlying21
  a21 := Tryd.isAgg21
  z21 := Tryd.sizeOf21
  v21 := Tryd.zeroValue21
  t37 := Tryd.underlying80
  a37 := Tryd.isAgg80
  z37 := Tryd.sizeOf80
  v37 := Tryd.zeroValue80
  t46 := Tryd.underlying150
  a46 := Tryd.isAgg150
  z46 := Tryd.sizeOf150
  v46 := Tryd.zeroValue150
  t51 := Tryd.underlying129
  a51 := Tryd.isAgg129
  z51 := Tryd.sizeOf129
  v51 := Tryd.zeroValue129
  t53 := Tryd.underlying136
  a53 := Tryd.isAgg136
  z53 := Tryd.sizeOf136
  v53 := Tryd.zeroValue136
  t75 := Tryd.underlying125
  a75 := Tryd.isAgg125
  z75 := Tryd.sizeOf125
  v75 := Tryd.zeroValue125
  t85 := Tryd.underlying155
  a85 := Tryd.isAgg155
  z85 := Tryd.sizeOf155
  v85 := Tryd.zeroValue155
  t127 := Tryd.underlying146
  a127 := Tryd.isAgg146
  z127 := Tryd.sizeOf146
  v127 := Tryd.zeroValue146
  t143 := Tryd.underlying197
  a143 := Tryd.isAgg197
  z143 := Tryd.sizeOf197
  v143 := Tryd.zeroValue197
  t145 := Tryd.underlying199
  a145 := Tryd.isAgg199
  z145 := Tryd.sizeOf199
  v145 := Tryd.zeroValue199
  t167 := Tryd.underlying180
  a167 := Tryd.isAgg180
  z167 := Tryd.sizeOf180
  v167 := Tryd.zeroValue180
  t168 := Tryd.underlying183
  a168 := Tryd.isAgg183
  z168 := Tryd.sizeOf183
  v168 := Tryd.zeroValue183
  t171 := Tryd.underlying161
  a171 := Tryd.isAgg161
  z171 := Tryd.sizeOf161
  v171 := Tryd.zeroValue161
  t173 := Tryd.underlying164
  a173 := Tryd.isAgg164
  z173 := Tryd.sizeOf164
  v173 := Tryd.zeroValue164
  t175 := Tryd.underlying181
  a175 := Tryd.isAgg181
  z175 := Tryd.sizeOf181
  v175 := Tryd.zeroValue181
  t210 := Tryd.underlying190
  a210 := Tryd.isAgg190
  z210 := Tryd.sizeOf190
  v210 := Tryd.zeroValue190
  t212 := Tryd.underlying176
  a212 := Tryd.isAgg176
  z212 := Tryd.sizeOf176
  v212 := Tryd.zeroValue176
  t213 := Tryd.underlying177
  a213 := Tryd.isAgg177
  z213 := Tryd.sizeOf177
  t232 := Tryd.underlying23
  a232 := Tryd.isAgg23
  z232 := Tryd.sizeOf23
  v232 := Tryd.zeroValue23
  t233 := Tryd.underlying196
  a233 := Tryd.isAgg196
  z233 := Tryd.sizeOf196
  v233 := Tryd.zeroValue196
  g15 := by kernel_rfl
  g16 := by kernel_rfl
  g17 := by kernel_rfl
  g18 := by kernel_rfl
  g19 := by kernel_rfl
  t80 := Tryd.underlying106
  a80 := Tryd.isAgg106
  z80 := Tryd.sizeOf106
  v80 := Tryd.zeroValue106
  i0 := by kernel_rfl
  i2 := by kernel_rfl
  i3 := by kernel_rfl
  i4 := by kernel_rfl
  i5 := by kernel_rfl
  i9 := by kernel_rfl
  i20 := by kernel_rfl
  i21 := by kernel_rfl
  i37 := by kernel_rfl
  i46 := by kernel_rfl
  i51 := by kernel_rfl
  i53 := by kernel_rfl
  i75 := by kernel_rfl
  i80 := by kernel_rfl
  i85 := by kernel_rfl
  i127 := by kernel_rfl
  i143 := by kernel_rfl
  i145 := by kernel_rfl
  i167 := by kernel_rfl
  i168 := by kernel_rfl
  i171 := by kernel_rfl
  i173 := by kernel_rfl
  i175 := by kernel_rfl
  i210 := by kernel_rfl
  i212 := by kernel_rfl
  i232 := by kernel_rfl
  i233 := by kernel_rfl
  m15 := by kernel_rfl
  m16 := by kernel_rfl
  m17 := by kernel_rfl
  m18 := by kernel_rfl
  m19 := by kernel_rfl
  c0 := by kernel_rfl
  c2 := by kernel_rfl
  c3 := by kernel_rfl
  c4 := by kernel_rfl
  c5 := by kernel_rfl
  c9 := by kernel_rfl
  c20 := by kernel_rfl
  c21 := by kernel_rfl
  c37 := by kernel_rfl
  c46 := by kernel_rfl
  c51 := by kernel_rfl
  c53 := by kernel_rfl
  c75 := by kernel_rfl
  c80 := by kernel_rfl
  c85 := by kernel_rfl
  c127 := by kernel_rfl
  c143 := by kernel_rfl
  c145 := by kernel_rfl
  c167 := by kernel_rfl
  c168 := by kernel_rfl
  c171 := by kernel_rfl
  c173 := by kernel_rfl
  c175 := by kernel_rfl
  c210 := by kernel_rfl
  c212 := by kernel_rfl
  c213 := by kernel_rfl
  c232 := by kernel_rfl
  c233 := by kernel_rfl }
open Go.RowKit in
/-- strconv.ParseInt(s, 10, 64), AT EVERY STRING THAT SPELLS AN int64 ('Lib.parseIntB 64 s.data.toList = .ok v'): v, AND NO ERROR. (LAID: no walk: one application.) -/
theorem Tryd.strconv_ParseInt_10_at64_ok (s : ByteArray) (hmax : s.size ≤ 9223372036854775806) (v : Int) (h : Lib.parseIntB 64 s.data.toList = .ok v) (w : World) :
    Calls Tryd.prog 107 #[.string s, .int .i64 10, .int .i64 64] w fun e w' => e = .returned (.tuple #[.int .i64 v, .nilIface]) ∧ (w' = w ∨ ∃ t, w' = Lib.bytesWorld w 5 t) := Any.strconv_ParseInt_10_at64_ok Tryd.laysC174 s hmax v h w
open Go.RowKit in
/-- strconv.ParseInt(s, 10, 64), AT EVERY STRING THAT IS NO DECIMAL NUMERAL: 0, AND AN ERROR THAT IS NOT nil: a *NumError in a new block N: {Func: "ParseInt", Num: s's bytes, Err: what the variable ErrSyntax holds}. Of what was there nothing has turned. (LAID: no walk: one application.) -/
theorem Tryd.strconv_ParseInt_10_at64_syntax (s : ByteArray) (hlim : s.size ≤ 281474976710656) (h : Lib.parseIntB 64 s.data.toList = Lib.parseIntB 64 []) (ev : Value) (w : World) (hv : w.cell? ⟨1, 0, none⟩ = some ev) (hev : ev = .nilIface ∨ ∃ te pe, ev = .iface te pe) :
    Calls Tryd.prog 107 #[.string s, .int .i64 10, .int .i64 64] w fun e w' => ∃ N, e = .returned (.tuple #[.int .i64 (0), .iface 183 (.pointer (some ⟨N, 0, none⟩))]) ∧ w.heap.size ≤ N ∧ w'.heap[N]? = some (.cells #[.string ⟨#[80, 97, 114, 115, 101, 73, 110, 116]⟩, .string s, ev] 190 (0, 0)) ∧ Below w.heap.size w w' := Any.strconv_ParseInt_10_at64_syntax Tryd.laysC174 s hlim h ev w hv hev
open Go.RowKit in
/-- strconv.ParseInt(s, 10, 64), AT EVERY NUMERAL THAT NO int64 HOLDS: THE GREATEST OR THE LEAST int64, BY THE SIGN ('Lib.intSat 64'), AND AN ERROR THAT IS NOT nil: a *NumError in a new block N: {Func: "ParseInt", Num: s's bytes, Err: what the variable ErrRange holds}. Of what was there nothing has turned. (LAID: no walk: one application.) -/
theorem Tryd.strconv_ParseInt_10_at64_range (s : ByteArray) (hlim : s.size ≤ 281474976710656) (h : Lib.parseIntB 64 s.data.toList = .range) (ev : Value) (w : World) (hv : w.cell? ⟨2, 0, none⟩ = some ev) (hev : ev = .nilIface ∨ ∃ te pe, ev = .iface te pe) :
    Calls Tryd.prog 107 #[.string s, .int .i64 10, .int .i64 64] w fun e w' => ∃ N, e = .returned (.tuple #[.int .i64 (Lib.intSat 64 s.data.toList), .iface 183 (.pointer (some ⟨N, 0, none⟩))]) ∧ w.heap.size ≤ N ∧ w'.heap[N]? = some (.cells #[.string ⟨#[80, 97, 114, 115, 101, 73, 110, 116]⟩, .string s, ev] 190 (0, 0)) ∧ Below w.heap.size w w' := Any.strconv_ParseInt_10_at64_range Tryd.laysC174 s hlim h ev w hv hev

end Go.Proofs
