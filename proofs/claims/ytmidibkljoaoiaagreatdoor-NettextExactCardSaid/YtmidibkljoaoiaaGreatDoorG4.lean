/- Rules and walks, joined from 28 texts: the first of them says: The contracts of the library that the walks take, laid at this translation. No condition. -/
import Derived.Test.YtmidibkljoaoiaaGreatDoorG3
import Derived.Shelf.Strconv.AppendIntPublic10
import Derived.Shelf.Strconv.AtoiAll
import Derived.Shelf.Strconv.ErrVarAll
import Derived.Shelf.Strings.SplitShaped
import Derived.Shelf.Strings.Split
import Derived.Shelf.Strings.Shaped
import Derived.Shelf.Strings.Cut
import Derived.Shelf.Strings.OnBuilder
import Derived.Shelf.Strings.Builder1
import Derived.RangeFuncLeaves
import Derived.RangeFuncOwn
import Derived.WalkSpells
import Derived.Lib.ItoaLen
import Derived.ProofKit
import Derived.WalkKit
import Derived.WalkLawsBesides
/- The contracts of the library that the walks take, laid at this translation. No condition. -/
namespace Go.Proofs.YtmidibkljoaoiaaGreatDoor
open Go.Shelf
def sh_lays169_ren : Go.Shelf.Ren := ⟨fun | 169 => 35 | n => n, fun | 70 => 72 | 9 => 9 | 0 => 0 | 72 => 75 | 37 => 73 | 127 => 106 | 3 => 3 | 5 => 5 | n => n, fun | n => n⟩
theorem sh_lays169 : Go.Proofs.Lays.n169 Tryz.prog sh_lays169_ren := {
  mixed := by kernel_rfl
  f169 := Tryz.func35.trans (congrArg some (by kernel_rfl))
  t0 := Tryz.underlying0
  a0 := Tryz.isAgg0
  z0 := Tryz.sizeOf0
  v0 := Tryz.zeroValue0
  t3 := Tryz.underlying3
  a3 := Tryz.isAgg3
  z3 := Tryz.sizeOf3
  v3 := Tryz.zeroValue3
  t9 := Tryz.underlying9
  a9 := Tryz.isAgg9
  z9 := Tryz.sizeOf9
  v9 := Tryz.zeroValue9
  t37 := Tryz.underlying73
  a37 := Tryz.isAgg73
  z37 := Tryz.sizeOf73
  v37 := Tryz.zeroValue73
  t70 := Tryz.underlying72
  a70 := Tryz.isAgg72
  z70 := Tryz.sizeOf72
  v70 := Tryz.zeroValue72
  t72 := Tryz.underlying75
  a72 := Tryz.isAgg75
  z72 := Tryz.sizeOf75
  v72 := Tryz.zeroValue75
  t127 := Tryz.underlying106
  a127 := Tryz.isAgg106
  z127 := Tryz.sizeOf106
  v127 := Tryz.zeroValue106 }
theorem sh_Builder_Extra_169 : Builder.Extra Tryz.prog sh_lays169_ren := {
  sizeBuilder := by kernel_rfl
  liesBuilder := by kernel_rfl
  t5 := Tryz.underlying5
  a5 := Tryz.isAgg5
  z5 := Tryz.sizeOf5
  v5 := Tryz.zeroValue5
  infoByte := by kernel_rfl
  cellsByte := by kernel_rfl
  sizeByte := by kernel_rfl
  neB5 := by decide }
open Go.RowKit in
theorem sh_Builder_String_any (B b : Nat) (l : List UInt8) (w : World) (h : Lib.IsBuilder 75 5 B b (Lib.byteCells l) w) (hBw : B ≤ w.heap.size) :
  Calls Tryz.prog 35 #[.pointer (some ⟨b, 0, none⟩)] w fun e w' => e = .returned (.string ⟨l.toArray⟩) ∧ Below B w w' := Any.Builder_String_any sh_lays169 sh_Builder_Extra_169 B b l w h hBw
def sh_lays156_ren : Go.Shelf.Ren := ⟨fun | 156 => 37 | 165 => 68 | 166 => 33 | 169 => 35 | 240 => 65 | 241 => 86 | 276 => 84 | 277 => 96 | n => n, fun | 31 => 23 | 9 => 9 | 3 => 3 | 4 => 4 | 0 => 0 | 20 => 20 | 72 => 75 | 76 => 78 | 70 => 72 | 37 => 73 | 75 => 77 | 127 => 106 | 164 => 125 | 5 => 5 | 80 => 81 | n => n, fun | n => n⟩
theorem sh_lays156 : Go.Proofs.Lays.n156 Tryz.prog sh_lays156_ren := {
  mixed := by kernel_rfl
  f156 := Tryz.func37.trans (congrArg some (by kernel_rfl))
  f165 := Tryz.func68.trans (congrArg some (by kernel_rfl))
  f166 := Tryz.func33.trans (congrArg some (by kernel_rfl))
  f169 := Tryz.func35.trans (congrArg some (by kernel_rfl))
  f240 := Tryz.func65.trans (congrArg some (by kernel_rfl))
  f241 := Tryz.func86.trans (congrArg some (by kernel_rfl))
  f276 := Tryz.func84.trans (congrArg some (by kernel_rfl))
  f277 := Tryz.func96.trans (congrArg some (by kernel_rfl))
  t0 := Tryz.underlying0
  a0 := Tryz.isAgg0
  z0 := Tryz.sizeOf0
  v0 := Tryz.zeroValue0
  t3 := Tryz.underlying3
  a3 := Tryz.isAgg3
  z3 := Tryz.sizeOf3
  v3 := Tryz.zeroValue3
  t4 := Tryz.underlying4
  a4 := Tryz.isAgg4
  z4 := Tryz.sizeOf4
  v4 := Tryz.zeroValue4
  t9 := Tryz.underlying9
  a9 := Tryz.isAgg9
  z9 := Tryz.sizeOf9
  v9 := Tryz.zeroValue9
  t20 := Tryz.underlying20
  a20 := Tryz.isAgg20
  z20 := Tryz.sizeOf20
  v20 := Tryz.zeroValue20
  t31 := Tryz.underlying23
  a31 := Tryz.isAgg23
  z31 := Tryz.sizeOf23
  v31 := Tryz.zeroValue23
  t37 := Tryz.underlying73
  a37 := Tryz.isAgg73
  z37 := Tryz.sizeOf73
  v37 := Tryz.zeroValue73
  t70 := Tryz.underlying72
  a70 := Tryz.isAgg72
  z70 := Tryz.sizeOf72
  v70 := Tryz.zeroValue72
  t72 := Tryz.underlying75
  a72 := Tryz.isAgg75
  z72 := Tryz.sizeOf75
  v72 := Tryz.zeroValue75
  t75 := Tryz.underlying77
  a75 := Tryz.isAgg77
  z75 := Tryz.sizeOf77
  v75 := Tryz.zeroValue77
  t76 := Tryz.underlying78
  a76 := Tryz.isAgg78
  z76 := Tryz.sizeOf78
  v76 := Tryz.zeroValue78
  t127 := Tryz.underlying106
  a127 := Tryz.isAgg106
  z127 := Tryz.sizeOf106
  v127 := Tryz.zeroValue106
  t164 := Tryz.underlying125
  a164 := Tryz.isAgg125
  z164 := Tryz.sizeOf125
  v164 := Tryz.zeroValue125 }
theorem sh_Builder_Extra_156 : Builder.Extra Tryz.prog sh_lays156_ren := {
  sizeBuilder := by kernel_rfl
  liesBuilder := by kernel_rfl
  t5 := Tryz.underlying5
  a5 := Tryz.isAgg5
  z5 := Tryz.sizeOf5
  v5 := Tryz.zeroValue5
  infoByte := by kernel_rfl
  cellsByte := by kernel_rfl
  sizeByte := by kernel_rfl
  neB5 := by decide }
open Go.RowKit in
theorem sh_strings_Join (bk o c : Nat) (xs : List ByteArray) (sep : ByteArray) (w : World) (hcells : ∀ (j : Nat) x, xs[j]? = some x → w.cell? ⟨bk, o + j, none⟩ = some (.string x)) (hbk : bk < w.heap.size) (hN : xs.length ≤ 140737488355328) (hcap : xs.length ≤ c) (hlen : (Lib.join (xs.map (·.data.toList)) sep.data.toList).length ≤ 140737488355328) :
  Calls Tryz.prog 37 #[.slice (some ⟨bk, o, none⟩) xs.length c, .string sep] w fun e w' => e = .returned (.string ⟨(Lib.join (xs.map (·.data.toList)) sep.data.toList).toArray⟩) ∧ Below w.heap.size w w' := Any.strings_Join sh_lays156 sh_Builder_Extra_156 bk o c xs sep w hcells hbk hN hcap hlen
def sh_laysC172_ren : Go.Shelf.Ren := ⟨fun | 172 => 123 | 244 => 130 | 245 => 131 | 247 => 134 | 279 => 135 | 280 => 136 | 281 => 137 | 282 => 138 | 287 => 139 | 316 => 140 | 171 => 142 | 205 => 141 | 321 => 143 | 322 => 144 | 243 => 145 | 246 => 146 | 283 => 115 | 284 => 116 | 285 => 117 | 286 => 118 | 129 => 125 | 317 => 124 | 318 => 126 | 319 => 127 | 320 => 128 | 337 => 132 | 338 => 133 | n => n, fun | 9 => 9 | 3 => 3 | 75 => 77 | 76 => 78 | 4 => 4 | 5 => 5 | 167 => 178 | 37 => 73 | 0 => 0 | 85 => 179 | 2 => 2 | 168 => 181 | 53 => 150 | 175 => 186 | 46 => 142 | 210 => 190 | 127 => 106 | 145 => 195 | 143 => 193 | 21 => 21 | 171 => 159 | 173 => 162 | 212 => 168 | 51 => 152 | 20 => 20 | 213 => 169 | 232 => 184 | 233 => 185 | 80 => 81 | n => n, fun | 15 => 6 | 16 => 7 | 17 => 1 | 18 => 4 | 19 => 5 | n => n⟩
theorem sh_laysC172 : Go.Proofs.LaysC.n172 Tryz.prog sh_laysC172_ren := {
  mixed := by kernel_rfl
  f129 := Tryz.func125.trans (congrArg some (by kernel_rfl))
  f171 := Tryz.func142.trans (congrArg some (by kernel_rfl))
  f172 := Tryz.func123.trans (congrArg some (by kernel_rfl))
  f205 := Tryz.func141.trans (congrArg some (by kernel_rfl))
  f243 := Tryz.func145.trans (congrArg some (by kernel_rfl))
  f244 := Tryz.func130.trans (congrArg some (by kernel_rfl))
  f245 := Tryz.func131.trans (congrArg some (by kernel_rfl))
  f246 := Tryz.func146.trans (congrArg some (by kernel_rfl))
  f247 := Tryz.func134.trans (congrArg some (by kernel_rfl))
  f279 := Tryz.func135.trans (congrArg some (by kernel_rfl))
  f280 := Tryz.func136.trans (congrArg some (by kernel_rfl))
  f281 := Tryz.func137.trans (congrArg some (by kernel_rfl))
  f282 := Tryz.func138.trans (congrArg some (by kernel_rfl))
  f283 := Tryz.func115.trans (congrArg some (by kernel_rfl))
  f284 := Tryz.func116.trans (congrArg some (by kernel_rfl))
  f285 := Tryz.func117.trans (congrArg some (by kernel_rfl))
  f286 := Tryz.func118.trans (congrArg some (by kernel_rfl))
  f287 := Tryz.func139.trans (congrArg some (by kernel_rfl))
  f316 := Tryz.func140.trans (congrArg some (by kernel_rfl))
  f317 := Tryz.func124.trans (congrArg some (by kernel_rfl))
  f318 := Tryz.func126.trans (congrArg some (by kernel_rfl))
  f319 := Tryz.func127.trans (congrArg some (by kernel_rfl))
  f320 := Tryz.func128.trans (congrArg some (by kernel_rfl))
  f321 := Tryz.func143.trans (congrArg some (by kernel_rfl))
  f322 := Tryz.func144.trans (congrArg some (by kernel_rfl))
  f337 := Tryz.func132.trans (congrArg some (by kernel_rfl))
  f338 := Tryz.func133.trans (congrArg some (by kernel_rfl))
  t0 := Tryz.underlying0
  a0 := Tryz.isAgg0
  z0 := Tryz.sizeOf0
  v0 := Tryz.zeroValue0
  t2 := Tryz.underlying2
  a2 := Tryz.isAgg2
  z2 := Tryz.sizeOf2
  v2 := Tryz.zeroValue2
  t3 := Tryz.underlying3
  a3 := Tryz.isAgg3
  z3 := Tryz.sizeOf3
  v3 := Tryz.zeroValue3
  t4 := Tryz.underlying4
  a4 := Tryz.isAgg4
  z4 := Tryz.sizeOf4
  v4 := Tryz.zeroValue4
  t5 := Tryz.underlying5
  a5 := Tryz.isAgg5
  z5 := Tryz.sizeOf5
  v5 := Tryz.zeroValue5
  t9 := Tryz.underlying9
  a9 := Tryz.isAgg9
  z9 := Tryz.sizeOf9
  v9 := Tryz.zeroValue9
  t20 := Tryz.underlying20
  a20 := Tryz.isAgg20
  z20 := Tryz.sizeOf20
  v20 := Tryz.zeroValue20
  t21 := Tryz.underlying21
  a21 := Tryz.isAgg21
  z21 := Tryz.sizeOf21
  v21 := Tryz.zeroValue21
  t37 := Tryz.underlying73
  a37 := Tryz.isAgg73
  z37 := Tryz.sizeOf73
  v37 := Tryz.zeroValue73
  t46 := Tryz.underlying142
  a46 := Tryz.isAgg142
  z46 := Tryz.sizeOf142
  v46 := Tryz.zeroValue142
  t51 := Tryz.underlying152
  a51 := Tryz.isAgg152
  z51 := Tryz.sizeOf152
  v51 := Tryz.zeroValue152
  t53 := Tryz.underlying150
  a53 := Tryz.isAgg150
  z53 := Tryz.sizeOf150
  v53 := Tryz.zeroValue150
  t75 := Tryz.underlying77
  a75 := Tryz.isAgg77
  z75 := Tryz.sizeOf77
  v75 := Tryz.zeroValue77
  t76 := Tryz.underlying78
  a76 := Tryz.isAgg78
  z76 := Tryz.sizeOf78
  v76 := Tryz.zeroValue78
  t85 := Tryz.underlying179
  a85 := Tryz.isAgg179
  z85 := Tryz.sizeOf179
  v85 := Tryz.zeroValue179
  t127 := Tryz.underlying106
  a127 := Tryz.isAgg106
  z127 := Tryz.sizeOf106
  v127 := Tryz.zeroValue106
  t143 := Tryz.underlying193
  a143 := Tryz.isAgg193
  z143 := Tryz.sizeOf193
  v143 := Tryz.zeroValue193
  t145 := Tryz.underlying195
  a145 := Tryz.isAgg195
  z145 := Tryz.sizeOf195
  v145 := Tryz.zeroValue195
  t167 := Tryz.underlying178
  a167 := Tryz.isAgg178
  z167 := Tryz.sizeOf178
  v167 := Tryz.zeroValue178
  t168 := Tryz.underlying181
  a168 := Tryz.isAgg181
  z168 := Tryz.sizeOf181
  v168 := Tryz.zeroValue181
  t171 := Tryz.underlying159
  a171 := Tryz.isAgg159
  z171 := Tryz.sizeOf159
  v171 := Tryz.zeroValue159
  t173 := Tryz.underlying162
  a173 := Tryz.isAgg162
  z173 := Tryz.sizeOf162
  v173 := Tryz.zeroValue162
  t175 := Tryz.underlying186
  a175 := Tryz.isAgg186
  z175 := Tryz.sizeOf186
  v175 := Tryz.zeroValue186
  t210 := Tryz.underlying190
  a210 := Tryz.isAgg190
  z210 := Tryz.sizeOf190
  v210 := Tryz.zeroValue190
  t212 := Tryz.underlying168
  a212 := Tryz.isAgg168
  z212 := Tryz.sizeOf168
  v212 := Tryz.zeroValue168
  t213 := Tryz.underlying169
  a213 := Tryz.isAgg169
  z213 := Tryz.sizeOf169
  t232 := Tryz.underlying184
  a232 := Tryz.isAgg184
  z232 := Tryz.sizeOf184
  v232 := Tryz.zeroValue184
  t233 := Tryz.underlying185
  a233 := Tryz.isAgg185
  z233 := Tryz.sizeOf185
  v233 := Tryz.zeroValue185
  g15 := by kernel_rfl
  g16 := by kernel_rfl
  g17 := by kernel_rfl
  g18 := by kernel_rfl
  g19 := by kernel_rfl
  t80 := Tryz.underlying81
  a80 := Tryz.isAgg81
  z80 := Tryz.sizeOf81
  v80 := Tryz.zeroValue81
  i0 := by kernel_rfl
  i2 := by kernel_rfl
  i3 := by kernel_rfl
  i4 := by kernel_rfl
  i5 := by kernel_rfl
  i9 := by kernel_rfl
  i20 := by kernel_rfl
  i21 := by kernel_rfl
  i37 := by kernel_rfl
  i46 := by kernel_rfl
  i51 := by kernel_rfl
  i53 := by kernel_rfl
  i75 := by kernel_rfl
  i76 := by kernel_rfl
  i80 := by kernel_rfl
  i85 := by kernel_rfl
  i127 := by kernel_rfl
  i143 := by kernel_rfl
  i145 := by kernel_rfl
  i167 := by kernel_rfl
  i168 := by kernel_rfl
  i171 := by kernel_rfl
  i173 := by kernel_rfl
  i175 := by kernel_rfl
  i210 := by kernel_rfl
  i212 := by kernel_rfl
  i232 := by kernel_rfl
  i233 := by kernel_rfl
  m15 := by kernel_rfl
  m16 := by kernel_rfl
  m17 := by kernel_rfl
  m18 := by kernel_rfl
  m19 := by kernel_rfl
  c0 := by kernel_rfl
  c2 := by kernel_rfl
  c3 := by kernel_rfl
  c4 := by kernel_rfl
  c5 := by kernel_rfl
  c9 := by kernel_rfl
  c20 := by kernel_rfl
  c21 := by kernel_rfl
  c37 := by kernel_rfl
  c46 := by kernel_rfl
  c51 := by kernel_rfl
  c53 := by kernel_rfl
  c75 := by kernel_rfl
  c76 := by kernel_rfl
  c80 := by kernel_rfl
  c85 := by kernel_rfl
  c127 := by kernel_rfl
  c143 := by kernel_rfl
  c145 := by kernel_rfl
  c167 := by kernel_rfl
  c168 := by kernel_rfl
  c171 := by kernel_rfl
  c173 := by kernel_rfl
  c175 := by kernel_rfl
  c210 := by kernel_rfl
  c212 := by kernel_rfl
  c213 := by kernel_rfl
  c232 := by kernel_rfl
  c233 := by kernel_rfl }
open Go.RowKit in
theorem sh_strconv_Atoi_ok (s : ByteArray) (hmax : s.size ≤ 9223372036854775806) (v : Int) (h : Lib.atoiAll s.data.toList = .ok v) (w : World) :
  Calls Tryz.prog 123 #[.string s] w fun e w' => e = .returned (.tuple #[.int .i64 v, .nilIface]) ∧ (w' = w ∨ ∃ t, w' = Lib.bytesWorld w 5 t) := Any.strconv_Atoi_ok sh_laysC172 s hmax v h w
open Go.RowKit in
theorem sh_strconv_Atoi_syntax (s : ByteArray) (hlim : s.size ≤ 281474976710656) (h : Lib.atoiAll s.data.toList = (Lib.NumEnd.ofOption none)) (ev : Value) (w : World) (hv : w.cell? ⟨6, 0, none⟩ = some ev) (hev : ev = .nilIface ∨ ∃ te pe, ev = .iface te pe) :
  Calls Tryz.prog 123 #[.string s] w fun e w' => ∃ N, e = .returned (.tuple #[.int .i64 (0), .iface 181 (.pointer (some ⟨N, 0, none⟩))]) ∧ w.heap.size ≤ N ∧ w'.heap[N]? = some (.cells #[.string ⟨#[65, 116, 111, 105]⟩, .string s, ev] 190 (0, 0)) ∧ Below w.heap.size w w' := Any.strconv_Atoi_syntax sh_laysC172 s hlim h ev w hv hev
open Go.RowKit in
theorem sh_strconv_Atoi_range (s : ByteArray) (hlim : s.size ≤ 281474976710656) (h : Lib.atoiAll s.data.toList = .range) (ev : Value) (w : World) (hv : w.cell? ⟨7, 0, none⟩ = some ev) (hev : ev = .nilIface ∨ ∃ te pe, ev = .iface te pe) :
  Calls Tryz.prog 123 #[.string s] w fun e w' => ∃ N, e = .returned (.tuple #[.int .i64 (Lib.atoiSat s.data.toList), .iface 181 (.pointer (some ⟨N, 0, none⟩))]) ∧ w.heap.size ≤ N ∧ w'.heap[N]? = some (.cells #[.string ⟨#[65, 116, 111, 105]⟩, .string s, ev] 190 (0, 0)) ∧ Below w.heap.size w w' := Any.strconv_Atoi_range sh_laysC172 s hlim h ev w hv hev
def sh_lays145_ren : Go.Shelf.Ren := ⟨fun | 145 => 51 | 220 => 74 | 219 => 87 | 217 => 97 | 225 => 98 | 224 => 99 | 267 => 100 | 266 => 105 | 314 => 106 | n => n, fun | 9 => 9 | 4 => 4 | 59 => 90 | 3 => 3 | 5 => 5 | 46 => 142 | 146 => 153 | 51 => 152 | n => n, fun | 1 => 0 | n => n⟩
theorem sh_lays145 : Go.Proofs.Lays.n145 Tryz.prog sh_lays145_ren := {
  mixed := by kernel_rfl
  f145 := Tryz.func51.trans (congrArg some (by kernel_rfl))
  f217 := Tryz.func97.trans (congrArg some (by kernel_rfl))
  f219 := Tryz.func87.trans (congrArg some (by kernel_rfl))
  f220 := Tryz.func74.trans (congrArg some (by kernel_rfl))
  f224 := Tryz.func99.trans (congrArg some (by kernel_rfl))
  f225 := Tryz.func98.trans (congrArg some (by kernel_rfl))
  f266 := Tryz.func105.trans (congrArg some (by kernel_rfl))
  f267 := Tryz.func100.trans (congrArg some (by kernel_rfl))
  f314 := Tryz.func106.trans (congrArg some (by kernel_rfl))
  t3 := Tryz.underlying3
  a3 := Tryz.isAgg3
  z3 := Tryz.sizeOf3
  v3 := Tryz.zeroValue3
  t4 := Tryz.underlying4
  a4 := Tryz.isAgg4
  z4 := Tryz.sizeOf4
  v4 := Tryz.zeroValue4
  t5 := Tryz.underlying5
  a5 := Tryz.isAgg5
  z5 := Tryz.sizeOf5
  v5 := Tryz.zeroValue5
  t9 := Tryz.underlying9
  a9 := Tryz.isAgg9
  z9 := Tryz.sizeOf9
  v9 := Tryz.zeroValue9
  t46 := Tryz.underlying142
  a46 := Tryz.isAgg142
  z46 := Tryz.sizeOf142
  v46 := Tryz.zeroValue142
  t51 := Tryz.underlying152
  a51 := Tryz.isAgg152
  z51 := Tryz.sizeOf152
  v51 := Tryz.zeroValue152
  t59 := Tryz.underlying90
  a59 := Tryz.isAgg90
  z59 := Tryz.sizeOf90
  v59 := Tryz.zeroValue90
  t146 := Tryz.underlying153
  a146 := Tryz.isAgg153
  z146 := Tryz.sizeOf153
  v146 := Tryz.zeroValue153
  g1 := by kernel_rfl }
open Go.RowKit Go.Lib in
theorem sh_strings_Cut (s sep : ByteArray) (m : Int) (w : World) (hs : s.size < 4294967281) (hm : w.cell? ⟨0, 0, none⟩ = some (.int .i64 m)) :
  Calls Tryz.prog 51 #[.string s, .string sep] w fun e w' => e = .returned (.tuple #[.string ⟨(Lib.cut s.data.toList sep.data.toList).1.toArray⟩, .string ⟨(Lib.cut s.data.toList sep.data.toList).2.1.toArray⟩, .bool (Lib.cut s.data.toList sep.data.toList).2.2]) ∧ ∃ n, w' = w.drewN n := Any.strings_Cut sh_lays145 s sep m w hs hm
def sh_laysM176_ren : Go.Shelf.Ren := ⟨fun | 176 => 85 | 249 => 95 | 288 => 104 | 283 => 115 | 284 => 116 | 285 => 117 | 286 => 118 | 129 => 125 | 317 => 124 | 318 => 126 | 319 => 127 | 320 => 128 | 337 => 132 | 338 => 133 | n => n, fun | 37 => 73 | 2 => 2 | 3 => 3 | 53 => 150 | 4 => 4 | 9 => 9 | 171 => 159 | 0 => 0 | 173 => 162 | 212 => 168 | 51 => 152 | 5 => 5 | 20 => 20 | 213 => 169 | 46 => 142 | 232 => 184 | 233 => 185 | n => n, fun | 17 => 1 | 18 => 4 | 19 => 5 | n => n⟩
theorem sh_laysM176 : Go.Proofs.LaysM.n176 Tryz.prog sh_laysM176_ren := {
  mixed := by kernel_rfl
  f129 := Tryz.func125.trans (congrArg some (by kernel_rfl))
  f176 := Tryz.func85.trans (congrArg some (by kernel_rfl))
  f249 := Tryz.func95.trans (congrArg some (by kernel_rfl))
  f283 := Tryz.func115.trans (congrArg some (by kernel_rfl))
  f284 := Tryz.func116.trans (congrArg some (by kernel_rfl))
  f285 := Tryz.func117.trans (congrArg some (by kernel_rfl))
  f286 := Tryz.func118.trans (congrArg some (by kernel_rfl))
  f288 := Tryz.func104.trans (congrArg some (by kernel_rfl))
  f317 := Tryz.func124.trans (congrArg some (by kernel_rfl))
  f318 := Tryz.func126.trans (congrArg some (by kernel_rfl))
  f319 := Tryz.func127.trans (congrArg some (by kernel_rfl))
  f320 := Tryz.func128.trans (congrArg some (by kernel_rfl))
  f337 := Tryz.func132.trans (congrArg some (by kernel_rfl))
  f338 := Tryz.func133.trans (congrArg some (by kernel_rfl))
  t0 := Tryz.underlying0
  a0 := Tryz.isAgg0
  z0 := Tryz.sizeOf0
  v0 := Tryz.zeroValue0
  t2 := Tryz.underlying2
  a2 := Tryz.isAgg2
  z2 := Tryz.sizeOf2
  v2 := Tryz.zeroValue2
  t3 := Tryz.underlying3
  a3 := Tryz.isAgg3
  z3 := Tryz.sizeOf3
  v3 := Tryz.zeroValue3
  t4 := Tryz.underlying4
  a4 := Tryz.isAgg4
  z4 := Tryz.sizeOf4
  v4 := Tryz.zeroValue4
  t5 := Tryz.underlying5
  a5 := Tryz.isAgg5
  z5 := Tryz.sizeOf5
  v5 := Tryz.zeroValue5
  t9 := Tryz.underlying9
  a9 := Tryz.isAgg9
  z9 := Tryz.sizeOf9
  v9 := Tryz.zeroValue9
  t20 := Tryz.underlying20
  a20 := Tryz.isAgg20
  z20 := Tryz.sizeOf20
  v20 := Tryz.zeroValue20
  t37 := Tryz.underlying73
  a37 := Tryz.isAgg73
  z37 := Tryz.sizeOf73
  v37 := Tryz.zeroValue73
  t46 := Tryz.underlying142
  a46 := Tryz.isAgg142
  z46 := Tryz.sizeOf142
  v46 := Tryz.zeroValue142
  t51 := Tryz.underlying152
  a51 := Tryz.isAgg152
  z51 := Tryz.sizeOf152
  v51 := Tryz.zeroValue152
  t53 := Tryz.underlying150
  a53 := Tryz.isAgg150
  z53 := Tryz.sizeOf150
  v53 := Tryz.zeroValue150
  t171 := Tryz.underlying159
  a171 := Tryz.isAgg159
  z171 := Tryz.sizeOf159
  v171 := Tryz.zeroValue159
  t173 := Tryz.underlying162
  a173 := Tryz.isAgg162
  z173 := Tryz.sizeOf162
  v173 := Tryz.zeroValue162
  t212 := Tryz.underlying168
  a212 := Tryz.isAgg168
  z212 := Tryz.sizeOf168
  v212 := Tryz.zeroValue168
  t213 := Tryz.underlying169
  a213 := Tryz.isAgg169
  z213 := Tryz.sizeOf169
  t232 := Tryz.underlying184
  a232 := Tryz.isAgg184
  z232 := Tryz.sizeOf184
  v232 := Tryz.zeroValue184
  t233 := Tryz.underlying185
  a233 := Tryz.isAgg185
  z233 := Tryz.sizeOf185
  v233 := Tryz.zeroValue185
  g17 := by kernel_rfl
  g18 := by kernel_rfl
  g19 := by kernel_rfl
  i0 := by kernel_rfl
  i2 := by kernel_rfl
  i3 := by kernel_rfl
  i4 := by kernel_rfl
  i5 := by kernel_rfl
  i9 := by kernel_rfl
  i20 := by kernel_rfl
  i37 := by kernel_rfl
  i46 := by kernel_rfl
  i51 := by kernel_rfl
  i53 := by kernel_rfl
  i171 := by kernel_rfl
  i173 := by kernel_rfl
  i212 := by kernel_rfl
  i232 := by kernel_rfl
  i233 := by kernel_rfl
  m17 := by kernel_rfl
  m18 := by kernel_rfl
  m19 := by kernel_rfl }
open Go.RowKit Go.Sort Go.Lib in
theorem sh_strconv_AppendInt_10 (B n : Nat) (i : Int) (h0 : -9223372036854775808 ≤ i) (h1 : i ≤ 9223372036854775807) (sv : Value) (xs : List Value) (w : World) (hown : w.ownsRow B 5 1 sv n xs) (hBw : B ≤ w.heap.size) (hlim : n + 21 ≤ 140737488355328) (htab : Lib.TabBelow Tryz.prog B w "internal/strconv.uint64pow10" .u64 Lib.pow10Tab) :
  Calls Tryz.prog 85 #[sv, .int .i64 i, .int .i64 10] w fun e w' => ∃ v', e = .returned v' ∧ w'.ownsRow B 5 1 v' (n + (Lib.itoa i).length) (xs ++ Lib.byteCells (Lib.itoa i)) ∧ Below B w w' ∧ Lib.OthersKept 5 none w w' := Any.strconv_AppendInt_10 sh_laysM176 B n i h0 h1 sv xs w hown hBw hlim htab
def sh_lays146_ren : Go.Shelf.Ren := ⟨fun | 146 => 88 | 221 => 101 | 268 => 107 | 138 => 108 | 143 => 109 | 195 => 119 | 197 => 120 | 218 => 121 | 219 => 87 | 260 => 129 | 217 => 97 | 225 => 98 | 224 => 99 | 267 => 100 | 266 => 105 | 314 => 106 | n => n, fun | 9 => 9 | 31 => 23 | 3 => 3 | 4 => 4 | 0 => 0 | 105 => 165 | 21 => 21 | 5 => 5 | 46 => 142 | 119 => 174 | 139 => 177 | 138 => 176 | 146 => 153 | 51 => 152 | n => n, fun | 1 => 0 | 3 => 2 | 4 => 3 | n => n⟩
theorem sh_lays146 : Go.Proofs.Lays.n146 Tryz.prog sh_lays146_ren := {
  mixed := by kernel_rfl
  f138 := Tryz.func108.trans (congrArg some (by kernel_rfl))
  f143 := Tryz.func109.trans (congrArg some (by kernel_rfl))
  f146 := Tryz.func88.trans (congrArg some (by kernel_rfl))
  f195 := Tryz.func119.trans (congrArg some (by kernel_rfl))
  f197 := Tryz.func120.trans (congrArg some (by kernel_rfl))
  f217 := Tryz.func97.trans (congrArg some (by kernel_rfl))
  f218 := Tryz.func121.trans (congrArg some (by kernel_rfl))
  f219 := Tryz.func87.trans (congrArg some (by kernel_rfl))
  f221 := Tryz.func101.trans (congrArg some (by kernel_rfl))
  f224 := Tryz.func99.trans (congrArg some (by kernel_rfl))
  f225 := Tryz.func98.trans (congrArg some (by kernel_rfl))
  f260 := Tryz.func129.trans (congrArg some (by kernel_rfl))
  f266 := Tryz.func105.trans (congrArg some (by kernel_rfl))
  f267 := Tryz.func100.trans (congrArg some (by kernel_rfl))
  f268 := Tryz.func107.trans (congrArg some (by kernel_rfl))
  f314 := Tryz.func106.trans (congrArg some (by kernel_rfl))
  t0 := Tryz.underlying0
  a0 := Tryz.isAgg0
  z0 := Tryz.sizeOf0
  v0 := Tryz.zeroValue0
  t3 := Tryz.underlying3
  a3 := Tryz.isAgg3
  z3 := Tryz.sizeOf3
  v3 := Tryz.zeroValue3
  t4 := Tryz.underlying4
  a4 := Tryz.isAgg4
  z4 := Tryz.sizeOf4
  v4 := Tryz.zeroValue4
  t5 := Tryz.underlying5
  a5 := Tryz.isAgg5
  z5 := Tryz.sizeOf5
  v5 := Tryz.zeroValue5
  t9 := Tryz.underlying9
  a9 := Tryz.isAgg9
  z9 := Tryz.sizeOf9
  v9 := Tryz.zeroValue9
  t21 := Tryz.underlying21
  a21 := Tryz.isAgg21
  z21 := Tryz.sizeOf21
  v21 := Tryz.zeroValue21
  t31 := Tryz.underlying23
  a31 := Tryz.isAgg23
  z31 := Tryz.sizeOf23
  v31 := Tryz.zeroValue23
  t46 := Tryz.underlying142
  a46 := Tryz.isAgg142
  z46 := Tryz.sizeOf142
  v46 := Tryz.zeroValue142
  t51 := Tryz.underlying152
  a51 := Tryz.isAgg152
  z51 := Tryz.sizeOf152
  v51 := Tryz.zeroValue152
  t105 := Tryz.underlying165
  a105 := Tryz.isAgg165
  z105 := Tryz.sizeOf165
  v105 := Tryz.zeroValue165
  t119 := Tryz.underlying174
  a119 := Tryz.isAgg174
  z119 := Tryz.sizeOf174
  t138 := Tryz.underlying176
  a138 := Tryz.isAgg176
  z138 := Tryz.sizeOf176
  v138 := Tryz.zeroValue176
  t139 := Tryz.underlying177
  a139 := Tryz.isAgg177
  z139 := Tryz.sizeOf177
  v139 := Tryz.zeroValue177
  t146 := Tryz.underlying153
  a146 := Tryz.isAgg153
  z146 := Tryz.sizeOf153
  v146 := Tryz.zeroValue153
  g1 := by kernel_rfl
  g3 := by kernel_rfl
  g4 := by kernel_rfl }
open Go.RowKit Go.Lib in
theorem sh_strings_Split (s sep : ByteArray) (m : Int) (w : World) (hs : s.size < 4294967281) (hm : w.cell? ⟨0, 0, none⟩ = some (.int .i64 m)) (h1 : 1 ≤ sep.size) :
  Calls Tryz.prog 88 #[.string s, .string sep] w fun e w' =>
   e = .returned (.slice (some ⟨w.heap.size, 0, none⟩) (Lib.countB s sep + 1) (Lib.countB s sep + 1)) ∧ w' = w.alloc (.cells ((Lib.splitB sep 0 (Lib.countB s sep) s).map Value.string).toArray 9) := Any.strings_Split sh_lays146 (by kernel_rfl) s sep m w hs hm h1
def sh_lays147_ren : Go.Shelf.Ren := ⟨fun | 147 => 91 | 221 => 101 | 268 => 107 | 138 => 108 | 143 => 109 | 195 => 119 | 197 => 120 | 218 => 121 | 219 => 87 | 260 => 129 | 217 => 97 | 225 => 98 | 224 => 99 | 267 => 100 | 266 => 105 | 314 => 106 | n => n, fun | 9 => 9 | 3 => 3 | 31 => 23 | 4 => 4 | 0 => 0 | 105 => 165 | 21 => 21 | 5 => 5 | 46 => 142 | 119 => 174 | 139 => 177 | 138 => 176 | 146 => 153 | 51 => 152 | n => n, fun | 1 => 0 | 3 => 2 | 4 => 3 | n => n⟩
theorem sh_lays147 : Go.Proofs.Lays.n147 Tryz.prog sh_lays147_ren := {
  mixed := by kernel_rfl
  f138 := Tryz.func108.trans (congrArg some (by kernel_rfl))
  f143 := Tryz.func109.trans (congrArg some (by kernel_rfl))
  f147 := Tryz.func91.trans (congrArg some (by kernel_rfl))
  f195 := Tryz.func119.trans (congrArg some (by kernel_rfl))
  f197 := Tryz.func120.trans (congrArg some (by kernel_rfl))
  f217 := Tryz.func97.trans (congrArg some (by kernel_rfl))
  f218 := Tryz.func121.trans (congrArg some (by kernel_rfl))
  f219 := Tryz.func87.trans (congrArg some (by kernel_rfl))
  f221 := Tryz.func101.trans (congrArg some (by kernel_rfl))
  f224 := Tryz.func99.trans (congrArg some (by kernel_rfl))
  f225 := Tryz.func98.trans (congrArg some (by kernel_rfl))
  f260 := Tryz.func129.trans (congrArg some (by kernel_rfl))
  f266 := Tryz.func105.trans (congrArg some (by kernel_rfl))
  f267 := Tryz.func100.trans (congrArg some (by kernel_rfl))
  f268 := Tryz.func107.trans (congrArg some (by kernel_rfl))
  f314 := Tryz.func106.trans (congrArg some (by kernel_rfl))
  t0 := Tryz.underlying0
  a0 := Tryz.isAgg0
  z0 := Tryz.sizeOf0
  v0 := Tryz.zeroValue0
  t3 := Tryz.underlying3
  a3 := Tryz.isAgg3
  z3 := Tryz.sizeOf3
  v3 := Tryz.zeroValue3
  t4 := Tryz.underlying4
  a4 := Tryz.isAgg4
  z4 := Tryz.sizeOf4
  v4 := Tryz.zeroValue4
  t5 := Tryz.underlying5
  a5 := Tryz.isAgg5
  z5 := Tryz.sizeOf5
  v5 := Tryz.zeroValue5
  t9 := Tryz.underlying9
  a9 := Tryz.isAgg9
  z9 := Tryz.sizeOf9
  v9 := Tryz.zeroValue9
  t21 := Tryz.underlying21
  a21 := Tryz.isAgg21
  z21 := Tryz.sizeOf21
  v21 := Tryz.zeroValue21
  t31 := Tryz.underlying23
  a31 := Tryz.isAgg23
  z31 := Tryz.sizeOf23
  v31 := Tryz.zeroValue23
  t46 := Tryz.underlying142
  a46 := Tryz.isAgg142
  z46 := Tryz.sizeOf142
  v46 := Tryz.zeroValue142
  t51 := Tryz.underlying152
  a51 := Tryz.isAgg152
  z51 := Tryz.sizeOf152
  v51 := Tryz.zeroValue152
  t105 := Tryz.underlying165
  a105 := Tryz.isAgg165
  z105 := Tryz.sizeOf165
  v105 := Tryz.zeroValue165
  t119 := Tryz.underlying174
  a119 := Tryz.isAgg174
  z119 := Tryz.sizeOf174
  t138 := Tryz.underlying176
  a138 := Tryz.isAgg176
  z138 := Tryz.sizeOf176
  v138 := Tryz.zeroValue176
  t139 := Tryz.underlying177
  a139 := Tryz.isAgg177
  z139 := Tryz.sizeOf177
  v139 := Tryz.zeroValue177
  t146 := Tryz.underlying153
  a146 := Tryz.isAgg153
  z146 := Tryz.sizeOf153
  v146 := Tryz.zeroValue153
  g1 := by kernel_rfl
  g3 := by kernel_rfl
  g4 := by kernel_rfl }
open Go.RowKit Go.Lib in
theorem sh_strings_SplitN (s sep : ByteArray) (n : Nat) (m : Int) (w : World) (hs : s.size < 4294967281) (hm : w.cell? ⟨0, 0, none⟩ = some (.int .i64 m)) (h1 : 1 ≤ sep.size) (hn : 1 ≤ n) (hn63 : n ≤ 9223372036854775807) :
  Calls Tryz.prog 91 #[.string s, .string sep, .int .i64 n] w fun e w' =>
   e = .returned (.slice (some ⟨w.heap.size, 0, none⟩) (Lib.splitB sep 0 (min n (s.size + 1) - 1) s).length (min n (s.size + 1))) ∧ w' = w.alloc (.cells (Lib.cellsOf (Lib.splitB sep 0 (min n (s.size + 1) - 1) s) (min n (s.size + 1))) 9) := Any.strings_SplitN sh_lays147 (by kernel_rfl) s sep n m w hs hm h1 hn hn63
end Go.Proofs.YtmidibkljoaoiaaGreatDoor

/- The reader of words: a certain word; digits. No condition. -/
set_option maxRecDepth 4000
set_option linter.unusedSimpArgs false
set_option linter.unusedVariables false
namespace Go.Proofs.YtmidibkljoaoiaaGreatDoor
open Go Go.RowKit Go.Proofs.YtmidibkljoaoiaaGreatDoor.K Go.Proofs.YtmidibkljoaoiaaGreatDoor.M

theorem Word_C {R : Ro} {b : Nat} {a : Option Addr} {cp : Nat} {ws : List (List UInt8)} {k at' size : Nat} (w0 : World) (hws : RS R 1 encT a ws) (hsz : size ≤ 1000000) {want : List UInt8} (hat : k < ws.length → at' + (nth ws k).length ≤ 2000000) : FnXAt Tryz.prog 113 [.pointer (some ⟨b, 0, none⟩), .string (str want)] w0 R (rdE b a cp ws k at' size) (fun v R' e' N => v = .tuple #[] ∧ k < ws.length ∧ nth ws k = want ∧ R = R' ∧ e' = (rdE b a cp ws (k + 1) (at' + (nth ws k).length + 1) size) ∧ N = []) (fun v R' e' => v = failV (wordE ws want k at' size).1 (wordE ws want k at' size).2 ∧ (wordE ws want k at' size).2 ≠ 0 ∧ R = R' ∧ e' = (rdE b a cp ws k at' size)) := by
 intro F
 have hwl := hws.len
 refine FnX.enter (n := 16) Tryz.func113 rfl rfl (Nat.le_of_ble_eq_true rfl) rfl ?_
 refine zQ (zQ (zG (zR 1 rfl ?_)))
 refine WL.callXAt 0 en110 rfl rfl qD (CallOp.mkT rfl rfl rfl rfl) rfl (Need_C w0 hws hsz _) ?_ ?_
 ·
  rintro _ _ _ - ⟨rfl, hk, rfl, rfl⟩
  refine WE.then_panic ?_
  refine WE.then_panic ?_
  refine WE.panicX (RLe.refl _) ?_
  have hE : wordE ws want k at' size = (size, 4) := by unfold wordE; rw [if_neg hk]
  exact ⟨_, rfl, by rw [hE], by rw [hE]; show (4 : Int) ≠ 0; decide, rfl, rfl⟩
 rintro _ _ _ _ - ⟨rfl, hk, rfl, rfl, rfl⟩
 refine zR 1 rfl ?_
 refine WG.y rfl rfl qD (Yl.neS rfl rfl rfl (fun _ => rfl)) ?_
 refine zN (zU ?_)
 refine W.cond rfl (fun hc0 => ?_) (fun hc0 => ?_)
 ·try simp only [zk] at hc0
  have hne : nth ws k ≠ want := fun h => by rw [h] at hc0; simp at hc0
  have hE : wordE ws want k at' size = (at', 4) := by unfold wordE; rw [if_pos hk, if_neg hne]
  refine zG (zR 3 rfl ?_)
  refine yL (Rd.add (Rd.blk 0 rfl) _) ?_
  -- build
  refine WG.y rfl rfl qD (Yl.build (parts := [(0, .tmp 11), (1, .const (.int .i64 4))]) tab_ok rfl rfl rfl rfl (fun _ => rfl) rfl rfl) ?_
  refine WG.y rfl rfl qD (Yl.toIface tab_ok rfl rfl rfl rfl (fun _ => rfl)) ?_
  refine WL.panic rfl rfl rfl ?_
  refine WE.then_panic ?_
  refine WE.panicX (RLe.refl _) ?_
  exact ⟨_, rfl, by rw [hE]; rfl, by rw [hE]; show (4 : Int) ≠ 0; decide, rfl, rfl⟩
 ·try simp only [zk] at hc0
  have hew : nth ws k = want := str_inj (by simpa using hc0)
  refine zK (zU (zG (zR 1 rfl ?_)))
  refine WL.callAt 0 en111 rfl rfl qD (CallOp.mkT rfl rfl rfl rfl) rfl (Skip_C w0 hws hsz hk (hat hk) _) ?_
  rintro _ _ _ _ - ⟨rfl, rfl, rfl, rfl⟩
  refine zN ?_
  refine WE.endX tab_ok [] rfl trivial (RLe.refl _) ?_
  exact ⟨_, [], rfl, rfl, hk, hew, rfl, rfl, rfl⟩

theorem Digs_V {R : Ro} {w : List UInt8} (hw : w.length ≤ 1000000) : FnV Tryz.prog 122 [.string (str w)] R (.bool (digs w)) := by
 refine Fn.toV (fun w0 E => ?_)
 have hss := str_size w
 have hse : str w = ⟨#[]⟩ ↔ w = [] := ⟨fun h => str_inj (b := []) h, fun h => by rw [h]; rfl⟩
 have h0l : w ≠ [] → 0 < w.length := List.length_pos_iff.2
 refine fE 32 Tryz.func122 ?_
 refine zQ (zG (zR 1 rfl (zN (zU (zQ (zQ (zG (zR 1 rfl ?_))))))))
 refine WG.y rfl rfl qD (Yl.eqS rfl rfl rfl (fun _ => rfl)) ?_
 refine zR 1 rfl ?_
 refine yP ?_
 refine yP ?_
 refine yP ?_
 refine yP ?_
 refine yP ?_
 refine WG.y rfl rfl (by decide) (Yl.sidx tab_ok rfl rfl rfl rfl rfl qE (by intro hg; (try simp only [zk] at hg); (have h1 := hg.2; constructor <;> omega))) ?_
 refine yP ?_
 refine yN ?_
 refine yO ?_
 refine zN (zU ?_)
 refine W.cond rfl (fun hc0 => ?_) (fun hc0 => ?_)
 ·try simp only [zk] at hc0
  have hno : digs w = false := by
   unfold digs
   rw [decide_eq_false_iff_not]
   rintro ⟨h1, h2, _⟩
   rcases hc0 with h | h
   ·exact h1 (hse.1 h)
   ·exact h2 ⟨by omega, h.2⟩
  refine zQ (zG (zR 1 rfl (zN (zU (zT (wt ?_))))))
  refine sE (E := E) ?_
  refine WE.retF tab_ok [_] rfl ⟨rfl, trivial⟩ (RLe.refl _) ?_
  exact ⟨by rw [hno]; rfl, rfl⟩
 ·try simp only [zk] at hc0
  have hy1 : w ≠ [] := fun h => by rw [h] at hc0; simp [str] at hc0
  have hy2 : ¬ (1 < w.length ∧ byteAt w 0 = 48) := fun h => by
   obtain ⟨h1, h2⟩ := hc0
   exact h2 qO h.2
  refine zK (zU (zQ (zQ (zG (zR 1 rfl (zN (zU (zB ?_))))))))
  refine W.loopK (β := Nat) (fun i => i ≤ w.length ∧ ∀ j, j < i → 48 ≤ byteAt w j ∧ byteAt w j ≤ 57) (fun i => [(3, true, .int .i64 (i : Int))]) [0] [_] [] _ rfl (fun i => []) (fun i => w.length - i) (0) (⟨Nat.zero_le _, fun j hj => by omega⟩) ⟨rfl, rfl, rfl⟩ qS ?_
  intro i hst
  dsimp only [zipE, setAll, List.cons_append, List.nil_append, List.set_cons_zero, List.set_cons_succ] at hst ⊢
  
  refine zQ (zQ (zG (zR 4 rfl (zN (zU ?_)))))
  refine W.condD rfl (fun hc1 => ?_) (fun hc1 => ?_)
  ·try dsimp only at hc1
   have hil : i < w.length := by omega
   have hbt : byteAt w ((i : Int)).toNat = byteAt w i := rfl
   refine zK (zU (zQ (zB (zQ (zG (zR 2 rfl ?_))))))
   refine WG.y rfl rfl qD (Yl.sidx tab_ok rfl rfl rfl rfl rfl (fun _ => rfl) qA) ?_
   refine zR 2 rfl ?_
   refine yP ?_
   refine yP ?_
   refine WG.y rfl rfl (by decide) (Yl.sidx tab_ok rfl rfl rfl rfl rfl qE (by intro hg; (try simp only [zk] at hg); constructor <;> (try dsimp only) <;> omega)) ?_
   refine yP ?_
   refine yO ?_
   refine zN (zU ?_)
   refine W.cond rfl (fun hc2 => ?_) (fun hc2 => ?_)
   ·try simp only [zk] at hc2
    have hno : digs w = false := by
     unfold digs
     rw [decide_eq_false_iff_not]
     rintro ⟨_, _, h3⟩
     have := h3 i hil
     rw [hbt] at hc2
     omega
    refine zQ (zG (zR 1 rfl (zN (zU (zT (wb (wt (wt (wb (wt ?_))))))))))
    refine sE (E := E) ?_
    refine WE.retF tab_ok [_] rfl ⟨rfl, trivial⟩ (RLe.refl _) ?_
    exact ⟨by rw [hno]; rfl, rfl⟩
   ·try simp only [zk] at hc2
    rw [hbt] at hc2
    have hy : 48 ≤ byteAt w i ∧ byteAt w i ≤ 57 := by omega
    refine zK (zL (zU (zG (zR 1 rfl ?_))))
    refine yA ?_
    refine zR 1 rfl (zN ?_)
    refine WE.again (i + 1) (⟨by omega, fun j hj => by
     by_cases e : j = i
     ·subst e; exact hy
     ·exact hst.2 j (by omega)⟩) (by (try dsimp only); omega) ⟨rfl, rfl, rfl⟩ (RLe.refl _) qS
  ·try dsimp only at hc1
   obtain rfl : i = w.length := by omega
   refine zX ?_
   refine wx (wx (zY (zU (zQ (zG (zR 1 rfl (zN (zU (zT ?_)))))))))
   refine sE (E := E) ?_
   refine WE.retF tab_ok [_] rfl ⟨rfl, trivial⟩ (RLe.refl _) ?_
   exact ⟨by rw [show digs w = true from decide_eq_true ⟨hy1, hy2, hst.2⟩]; rfl, rfl⟩



theorem nilI77 : Tryz.prog.underlying 77 = some (.interface (Tryz.prog.methodsAt 77)) := by kernel_rfl
structure GlobE (R : Ro) : Prop where
 m : ∃ (m : Int) (rest : List Value), R 0 = some (.int .i64 m :: rest)
 pow : R 1 = some (Lib.pow10Tab.map fun z => Value.int .u64 z)
 es : ∃ (t : TypeId) (p : Value), R 6 = some [.iface t p]
 er : ∃ (t : TypeId) (p : Value), R 7 = some [.iface t p]
theorem GlobE.mono {R R' : Ro} (h : GlobE R) (hR : RLe R R') : GlobE R' := ⟨by obtain ⟨m, r, h⟩ := h.m; exact ⟨m, r, hR _ _ h⟩, hR _ _ h.pow, by obtain ⟨t, p, h⟩ := h.es; exact ⟨t, p, hR _ _ h⟩, by obtain ⟨t, p, h⟩ := h.er; exact ⟨t, p, hR _ _ h⟩⟩
theorem AtoiA_C {R : Ro} (hE : GlobE R) {s : List UInt8} (hs : s.length ≤ 4000000000) (w0 : World) (E : List Ent) : K.Fn Tryz.prog 123 [.string (str s)] w0 R E (fun v R' E' => ∃ (n : Int) (t : TypeId) (p : Value), (atBad s = false → Lib.atoiAll s = .ok n ∧ n = atNum s) ∧ InR n ∧ v = .tuple #[.int .i64 n, errV (atBad s) t p] ∧ R = R' ∧ E = E') := by
 intro w hm
 have hsz := str_size s
 have hli := str_list s
 obtain ⟨t1, p1, h1⟩ := hE.es
 obtain ⟨t2, p2, h2⟩ := hE.er
 rcases h : Lib.atoiAll s with v | _ | _
 ·refine (sh_strconv_Atoi_ok (str s) (by omega) v (by rw [hli]; exact h) w).mono ?_
  obtain ⟨e1, e2⟩ := atBad_ok h
  rintro e w' ⟨rfl, hw⟩
  refine ⟨_, R, E, rfl, RLe.refl _, hm.belowAll ?_, v, 0, .nilIface, fun _ => ⟨rfl, e2.symm⟩, Lib.atoiAll_bounds h, by rw [e1]; rfl, rfl, rfl⟩
  rcases hw with rfl | ⟨t, rfl⟩
  ·exact Below.refl _ _
  ·exact Lib.bytesWorld_below w _ t
 ·refine (sh_strconv_Atoi_syntax (str s) (by omega) (by rw [hli]; exact h) _ w (hm.cell h1) (.inr ⟨_, _, rfl⟩)).mono ?_
  have e1 : atBad s = true := by unfold atBad; rw [h]
  rintro e w' ⟨N, rfl, _, _, hb⟩
  exact ⟨_, R, E, rfl, RLe.refl _, hm.belowAll hb, 0, _, _, fun hh => absurd (e1.symm.trans hh) (by decide), by constructor <;> decide, by rw [e1]; rfl, rfl, rfl⟩
 ·refine (sh_strconv_Atoi_range (str s) (by omega) (by rw [hli]; exact h) _ w (hm.cell h2) (.inr ⟨_, _, rfl⟩)).mono ?_
  have e1 : atBad s = true := by unfold atBad; rw [h]
  rintro e w' ⟨N, rfl, _, _, hb⟩
  exact ⟨_, R, E, rfl, RLe.refl _, hm.belowAll hb, Lib.atoiSat (str s).data.toList, _, _, fun hh => absurd (e1.symm.trans hh) (by decide), by unfold Lib.atoiSat; split <;> constructor <;> decide, by rw [e1]; rfl, rfl, rfl⟩

theorem Number_C {R : Ro} {b : Nat} {a : Option Addr} {cp : Nat} {ws : List (List UInt8)} {k at' size : Nat} (w0 : World) (hws : RS R 1 encT a ws) (hsz : size ≤ 1000000) (hG : GlobE R) (hlw : ∀ w ∈ ws, w.length ≤ 1000000) (hat : k < ws.length → at' + (nth ws k).length ≤ 2000000) : FnXAt Tryz.prog 112 [.pointer (some ⟨b, 0, none⟩)] w0 R (rdE b a cp ws k at' size) (fun v R' e' N => v = .int .i64 (numV (nth ws k) : Int) ∧ k < ws.length ∧ numE ws k at' size = (0, 0) ∧ R = R' ∧ e' = (rdE b a cp ws (k + 1) (at' + (nth ws k).length + 1) size) ∧ N = []) (fun v R' e' => v = failV (numE ws k at' size).1 (numE ws k at' size).2 ∧ (numE ws k at' size).2 ≠ 0 ∧ R = R' ∧ e' = (rdE b a cp ws k at' size)) := by
 intro F
 have hwl := hws.len
 refine FnX.enter (n := 37) Tryz.func112 rfl rfl (Nat.le_of_ble_eq_true rfl) rfl ?_
 refine zQ (zG (zR 1 rfl (zN (zU (zQ (zG (zR 1 rfl ?_)))))))
 refine WL.callXAt 0 en110 rfl rfl qD (CallOp.mkT rfl rfl rfl rfl) rfl (Need_C w0 hws hsz _) ?_ ?_
 ·
  rintro _ _ _ - ⟨rfl, hk, rfl, rfl⟩
  refine WE.then_panic ?_
  refine WE.panicX (RLe.refl _) ?_
  have hE : numE ws k at' size = (size, 4) := by unfold numE; rw [if_neg hk]
  exact ⟨_, rfl, by rw [hE], by rw [hE]; show (4 : Int) ≠ 0; decide, rfl, rfl⟩
 rintro _ _ _ _ - ⟨rfl, hk, rfl, rfl, rfl⟩
 refine zR 1 rfl (zN (zU (zQ (zQ (zG (zR 1 rfl ?_))))))
 refine WG.callV en122 rfl rfl qD (CallOp.mk' rfl rfl rfl rfl) (fun _ => rfl) (fun hg => Digs_V (hlw _ (nth_mem hk))) ?_
 refine zR 1 rfl (zN (zU ?_))
 refine W.cond rfl (fun hc0 => ?_) (fun hc0 => ?_)
 ·try simp only [zk] at hc0
  have hE : numE ws k at' size = (at', 4) := by unfold numE; rw [if_pos hk, if_neg (by rw [hc0]; decide)]
  refine zG (zR 3 rfl ?_)
  refine yL (Rd.add (Rd.blk 0 rfl) _) ?_
  -- build
  refine WG.y rfl rfl qD (Yl.build (parts := [(0, .tmp 14), (1, .const (.int .i64 4))]) tab_ok rfl rfl rfl rfl (fun _ => rfl) rfl rfl) ?_
  refine WG.y rfl rfl qD (Yl.toIface tab_ok rfl rfl rfl rfl (fun _ => rfl)) ?_
  refine WL.panic rfl rfl rfl ?_
  refine WE.then_panic ?_
  refine WE.panicX (RLe.refl _) ?_
  exact ⟨_, rfl, by rw [hE]; rfl, by rw [hE]; show (4 : Int) ≠ 0; decide, rfl, rfl⟩
 ·try simp only [zk] at hc0
  refine zK (zU (zQ (zG (zR 1 rfl ?_))))
  refine WL.call en123 rfl rfl qD (CallOp.mkT rfl rfl rfl rfl) (AtoiA_C hG (s := nth ws k) (by have := hlw _ (nth_mem hk); omega) w0 _) ?_
  rintro _ _ _ - ⟨n, t, p, hn, hr, rfl, rfl, rfl⟩
  obtain ⟨hd1, hd2⟩ := digs_num hc0
  refine zR 5 rfl (zN (zU (zQ (zQ (zG (zR 1 rfl ?_))))))
  refine WG.y rfl rfl qD (Yl.neNilI nilI77 rfl rfl rfl (fun _ => rfl) (errV_cases _ _ _)) ?_
  refine zR 1 rfl ?_
  refine yP ?_
  refine yP ?_
  refine yO ?_
  refine zN (zU ?_)
  refine W.cond rfl (fun hc1 => ?_) (fun hc1 => ?_)
  ·try simp only [zk] at hc1
   have hE : numE ws k at' size = (at', 2) := by
    unfold numE
    rw [if_pos hk, if_pos hc0, if_pos]
    cases hb : atBad (nth ws k) with
    | true => exact hd2 hb
    | false => have e1 := hd1 hb; have e2 := (hn hb).2; rw [hb] at hc1; simp at hc1; omega
   refine zG (zR 3 rfl ?_)
   refine yL (Rd.add (Rd.blk 0 rfl) _) ?_
   -- build
   refine WG.y rfl rfl qD (Yl.build (parts := [(0, .tmp 31), (1, .const (.int .i64 2))]) tab_ok rfl rfl rfl rfl (fun _ => rfl) rfl rfl) ?_
   refine WG.y rfl rfl qD (Yl.toIface tab_ok rfl rfl rfl rfl (fun _ => rfl)) ?_
   refine WL.panic rfl rfl rfl ?_
   refine WE.then_panic ?_
   refine WE.panicX (RLe.refl _) ?_
   exact ⟨_, rfl, by rw [hE]; rfl, by rw [hE]; show (2 : Int) ≠ 0; decide, rfl, rfl⟩
  ·try simp only [zk] at hc1
   have e1 := hd1 hc1.1
   have e2 := (hn hc1.1).2
   have hE : numE ws k at' size = (0, 0) := by unfold numE; rw [if_pos hk, if_pos hc0, if_neg (by omega)]
   have hnv : n = (numV (nth ws k) : Int) := by omega
   refine zK (zU (zQ (zG (zR 1 rfl ?_))))
   refine WL.callAt 0 en111 rfl rfl qD (CallOp.mkT rfl rfl rfl rfl) rfl (Skip_C w0 hws hsz hk (hat hk) _) ?_
   rintro _ _ _ _ - ⟨rfl, rfl, rfl, rfl⟩
   refine zN (zU (zQ (zG (zR 2 rfl (zN (zU (zT ?_)))))))
   refine WE.retX tab_ok [_] rfl ⟨rfl, trivial⟩ (RLe.refl _) ?_
   exact ⟨_, [], rfl, by rw [hnv]; rfl, hk, hE, rfl, rfl, rfl⟩



theorem encT_flat : ∀ xs : List (List UInt8), (xs.map encT).flatten = xs.map (fun x => Value.string (str x))
 | [] => rfl
 | x :: l => by simp only [List.map_cons, List.flatten_cons, encT_flat l]; rfl
theorem Join_V {R : Ro} {a : Option Addr} {c : Nat} {d : UInt8} {xs : List (List UInt8)} (hxs : RS R 1 encT a xs) (h0 : xs ≠ []) (hc : xs.length ≤ c) (hn : xs.length ≤ 1000000) (hl : (Lib.join xs [d]).length ≤ 140737488355328) : FnV Tryz.prog 37 [.slice a xs.length c, .string (str [d])] R (.string (str (Lib.join xs [d]))) := by
 intro w0 E w hm
 obtain ⟨_, h2, _⟩ := hxs
 rcases h2 with h | ⟨b, off, cs, rfl, hb, hcs⟩
 ·exact absurd (List.map_eq_nil_iff.1 h) h0
 have hfl := encT_flat xs
 have hdat : (xs.map str).map (·.data.toList) = xs := by
  rw [List.map_map]
  exact List.map_id'' (fun x => by simp [str]) _
 have hld : (str [d]).data.toList = [d] := by simp [str]
 have hsh := sh_strings_Join b off c (xs.map str) (str [d]) w (fun j x hj => by
   rw [List.getElem?_map] at hj
   obtain ⟨T, fz, h1⟩ := hm.ro b cs hb
   have h3 := hcs j (.string x) (by
    rw [hfl, List.getElem?_map]
    cases hx : xs[j]? with
    | none => rw [hx] at hj; cases hj
    | some y => rw [hx] at hj; obtain rfl := Option.some.inj hj; rfl)
   simp [World.cell?, h1, h3]) (hm.ro_lt hb) (by rw [List.length_map]; omega) (by rw [List.length_map]; exact hc) (by rw [hdat, hld]; exact hl)
 rw [hdat, hld, List.length_map] at hsh
 refine hsh.mono ?_
 rintro e w' ⟨rfl, hb'⟩
 exact ⟨rfl, hm.belowAll hb'⟩

theorem Keyw_V {R : Ro} {k : Int} : FnV Tryz.prog 43 [.int .i64 k] R (.string (str (kwS k))) := by
 refine Fn.toV (fun w0 E => ?_)
 refine fE 14 Tryz.func43 ?_
 refine zQ (zG (zR 1 rfl (zN (zU (zQ (zQ (zG (zR 1 rfl (zN (zU (zB (zQ (zG (zR 2 rfl (zN (zU ?_))))))))))))))))
 refine W.condE rfl (fun hc0 => ?_) (fun hc0 => ?_)
 ·try dsimp only at hc0
  have hkk : k = 1 := by omega
  
  refine zQ (zG (zR 1 rfl (zN (zU (zT (wb (wt ?_)))))))
  refine sE (E := E) ?_
  refine WE.retF tab_ok [_] rfl ⟨rfl, trivial⟩ (RLe.refl _) ?_
  exact ⟨by subst hkk; rfl, rfl⟩
 ·try dsimp only at hc0
  have hkk1 : ¬ k = 1 := by omega
  refine zQ (zG (zR 2 rfl (zN (zU ?_))))
  refine W.condE rfl (fun hc1 => ?_) (fun hc1 => ?_)
  ·try dsimp only at hc1
   have hkk : k = 2 := by omega
   
   refine zQ (zG (zR 1 rfl (zN (zU (zT (wb (wt ?_)))))))
   refine sE (E := E) ?_
   refine WE.retF tab_ok [_] rfl ⟨rfl, trivial⟩ (RLe.refl _) ?_
   exact ⟨by subst hkk; rfl, rfl⟩
  ·try dsimp only at hc1
   have hkk2 : ¬ k = 2 := by omega
   refine zQ (zG (zR 2 rfl (zN (zU ?_))))
   refine W.condE rfl (fun hc2 => ?_) (fun hc2 => ?_)
   ·try dsimp only at hc2
    have hkk : k = 3 := by omega
    
    refine zQ (zG (zR 1 rfl (zN (zU (zT (wb (wt ?_)))))))
    refine sE (E := E) ?_
    refine WE.retF tab_ok [_] rfl ⟨rfl, trivial⟩ (RLe.refl _) ?_
    exact ⟨by subst hkk; rfl, rfl⟩
   ·try dsimp only at hc2
    have hkk3 : ¬ k = 3 := by omega
    refine zQ (zG (zR 2 rfl (zN (zU ?_))))
    refine W.condE rfl (fun hc3 => ?_) (fun hc3 => ?_)
    ·try dsimp only at hc3
     have hkk : k = 4 := by omega
     
     refine zQ (zG (zR 1 rfl (zN (zU (zT (wb (wt ?_)))))))
     refine sE (E := E) ?_
     refine WE.retF tab_ok [_] rfl ⟨rfl, trivial⟩ (RLe.refl _) ?_
     exact ⟨by subst hkk; rfl, rfl⟩
    ·try dsimp only at hc3
     have hkk4 : ¬ k = 4 := by omega
     refine zQ (zG (zR 2 rfl (zN (zU ?_))))
     refine W.condE rfl (fun hc4 => ?_) (fun hc4 => ?_)
     ·try dsimp only at hc4
      have hkk : k = 5 := by omega
      
      refine zQ (zG (zR 1 rfl (zN (zU (zT (wb (wt ?_)))))))
      refine sE (E := E) ?_
      refine WE.retF tab_ok [_] rfl ⟨rfl, trivial⟩ (RLe.refl _) ?_
      exact ⟨by subst hkk; rfl, rfl⟩
     ·try dsimp only at hc4
      have hkk5 : ¬ k = 5 := by omega
      refine zK (zL (zU (zQ (zG (zR 1 rfl (zN (zU (zT ?_))))))))
      refine sE (E := E) ?_
      refine WE.retF tab_ok [_] rfl ⟨rfl, trivial⟩ (RLe.refl _) ?_
      exact ⟨by unfold kwS; rw [if_neg hkk1, if_neg hkk2, if_neg hkk3, if_neg hkk4, if_neg hkk5]; rfl, rfl⟩



theorem Dec24z_V {R : Ro} {z : Int} (h0 : 0 ≤ z) (h1 : z ≤ 9223372036854775807) : FnV Tryz.prog 38 [.int .i64 z] R (.string (str (Lib.decDigits z.toNat))) := by
 have h := Dec24_V (R := R) (n := z.toNat) (by omega)
 rw [Int.toNat_of_nonneg h0] at h
 exact h

set_option maxHeartbeats 1000000 in
theorem ListN_V {R : Ro} {a : Option Addr} {c : Nat} {l : List Int} (hl : RS R 1 encI a l) (h0 : l ≠ []) (hn : l.length ≤ 1000000) (hz : ∀ x ∈ l, x ≤ 9223372036854775807) (hlen : (lstS l).length ≤ 140737488355328) : FnV Tryz.prog 44 [.slice a l.length c] R (.string (str (lstS l))) := by
 refine FnV.ofOwn (fun w0 hb0 => ?_)
 have hll := hl.len
 refine fE 29 Tryz.func44 ?_
 refine zQ (zG (zR 1 rfl (zN (zU (zQ (zG (zR 2 rfl ?_)))))))
 refine WL.ef rfl rfl qD (Ef.makeSliceD (enc := encT) [] tab_ok rfl rfl rfl rfl rfl rfl qX qX qX qX qD rfl rfl (fun a8 => ?_))
 refine zR 1 rfl (zN (zU (zQ (zQ (zG (zR 3 rfl (zN (zU (zB ?_)))))))))
 refine W.loopK (β := Nat × List (List UInt8)) (fun (i, ws) => i ≤ l.length ∧ ws.length = l.length ∧ ws.take i = (l.take i).map lstW) (fun (i, ws) => [(11, true, .int .i64 (i : Int))]) [3, 9, 10] [_, _, _] [] _ rfl (fun (i, ws) => [(0, .sl 9 1 (some ⟨a8, 0, none⟩) l.length (ws.map encT))]) (fun (i, ws) => l.length - i) ((0, List.replicate l.length [])) (⟨Nat.zero_le _, by simp, rfl⟩) ⟨rfl, rfl, rfl, rfl, rfl⟩ qS ?_
 intro zz hst
 obtain ⟨i, ws⟩ := zz
 dsimp only [zipE, setAll, List.cons_append, List.nil_append, List.set_cons_zero, List.set_cons_succ] at hst ⊢
 obtain ⟨hi, hwl, hwt⟩ := hst
 refine zQ (zG (zR 1 rfl (zN (zU (zQ ?_)))))
 refine W.condD rfl (fun hc0 => ?_) (fun hc0 => ?_)
 ·try dsimp only at hc0
  have hil : i < l.length := by omega
  have hiw : i < ws.length := by omega
  have hzi := hz _ (nth_mem hil)
  refine zK (zU (zQ (zB (zQ (zG (zR 1 rfl ?_))))))
  refine WG.y rfl rfl qD (Yl.indexN tab_ok rfl rfl rfl rfl rfl rfl (fun _ => rfl) qN qH) ?_
  refine yR ?_
  refine zR 2 rfl (zN (zU (zQ (zG (zR 2 rfl ?_)))))
  refine WG.y rfl rfl qD (Yl.indexN tab_ok rfl rfl rfl rfl rfl rfl (fun _ => rfl) qN qH) ?_
  refine WL.efN rfl rfl (Ef.storeD [45] 0 tab_ok rfl rfl rfl rfl rfl qX rfl rfl rfl rfl ?_)
  refine zN (zU (zQ (zG (zR 2 rfl (zN (zU ?_))))))
  refine W.condD rfl (fun hc1 => ?_) (fun hc1 => ?_)
  ·try dsimp only at hc1
   refine zG (zR 3 rfl ?_)
   refine WG.callV en38 rfl rfl qD (CallOp.mk' rfl rfl rfl rfl) (fun _ => rfl) (fun hg => Dec24z_V hc1 hzi) ?_
   refine WG.y rfl rfl qD (Yl.indexN tab_ok rfl rfl rfl rfl rfl rfl (fun _ => rfl) qN qH) ?_
   refine WL.efN rfl rfl (Ef.storeD (Lib.decDigits (nth l i).toNat) 0 tab_ok rfl rfl rfl rfl rfl (by (try dsimp only); rw [List.length_set]; omega) rfl rfl rfl rfl ?_)
   refine zN (zL (zU (zG ?_)))
   refine yA ?_
   refine zR 1 rfl (zN ?_)
   refine WE.again ((i + 1, (ws.set i [45]).set i (Lib.decDigits (nth l i).toNat))) (⟨by omega, by rw [List.length_set, List.length_set]; exact hwl, by
    show List.take (i + 1) _ = (l.take (i + 1)).map lstW
    rw [set_snoc (by rw [List.length_set]; omega), List.take_set_of_le (Nat.le_refl _), hwt, (show l.take (i + 1) = _ from take_nth hil), List.map_append, List.map_singleton, show lstW (nth l i) = _ from if_pos hc1]⟩) (by (try dsimp only); omega) ⟨rfl, rfl, rfl, rfl, rfl⟩ (RLe.refl _) qS
  ·try dsimp only at hc1
   refine zK (zL (zU (zG ?_)))
   refine yA ?_
   refine zR 1 rfl (zN ?_)
   refine WE.again ((i + 1, ws.set i [45])) (⟨by omega, by rw [List.length_set]; exact hwl, by
    show List.take (i + 1) _ = (l.take (i + 1)).map lstW
    rw [set_snoc (by omega), hwt, (show l.take (i + 1) = _ from take_nth hil), List.map_append, List.map_singleton, show lstW (nth l i) = _ from if_neg hc1]⟩) (by (try dsimp only); omega) ⟨rfl, rfl, rfl, rfl, rfl⟩ (RLe.refl _) qS
 ·try dsimp only at hc0
  obtain rfl : i = l.length := by omega
  refine zX ?_
  refine wx (wx (zY (zU ?_)))
  rw [show l.take l.length = l from List.take_length, List.take_of_length_le (by omega)] at hwt
  refine W.freeze (enc := encT) (xs := ws) 0 rfl ?_
  intro R2 hR2 hws
  rw [show l.length = ws.length from hwl.symm]
  subst hwt
  refine zQ (zG (zR 1 rfl ?_))
  refine WG.callV en37 rfl rfl (by decide) (CallOp.mk' rfl rfl rfl rfl) (fun _ => rfl) (fun hg => Join_V hws (fun h => by rw [h] at hwl; exact h0 (List.length_eq_zero_iff.1 hwl.symm)) (Nat.le_refl _) (by omega) hlen) ?_
  refine zR 1 rfl (zN (zU (zT ?_)))
  refine WE.subE (E' := []) qS ?_
  refine WE.retF tab_ok [_] rfl ⟨rfl, trivial⟩ (by first | assumption | exact RLe.refl _) ?_
  exact rfl



def kindI (k : Int) : Value := if k = 1 then .iface 129 (.agg #[]) else if k = 2 then .iface 130 (.agg #[]) else if k = 3 then .iface 131 (.agg #[]) else if k = 4 then .iface 132 (.agg #[]) else if k = 5 then .iface 133 (.agg #[]) else .nilIface
def kindB (k : Int) : Bool := decide (1 ≤ k) && decide (k ≤ 5)
def kindR (k : Int) : Option (Nat × Value) := if k = 1 then some (0, .iface 129 (.agg #[])) else if k = 2 then some (1, .iface 130 (.agg #[])) else if k = 3 then some (2, .iface 131 (.agg #[])) else if k = 4 then some (3, .iface 132 (.agg #[])) else if k = 5 then some (4, .iface 133 (.agg #[])) else none
theorem kind_find (k : Int) : Instr.findNow (.int .i64) (.int .i64 k) [{ key := .int .i64 1, val := .iface 129 (.agg #[]), born := 0 }, { key := .int .i64 2, val := .iface 130 (.agg #[]), born := 1 }, { key := .int .i64 3, val := .iface 131 (.agg #[]), born := 2 }, { key := .int .i64 4, val := .iface 132 (.agg #[]), born := 3 }, { key := .int .i64 5, val := .iface 133 (.agg #[]), born := 4 }] 0 = some (kindR k) := by
 unfold kindR
 by_cases h1 : k = 1
 ·subst h1; rfl
 ·by_cases h2 : k = 2
  ·subst h2; rfl
  ·by_cases h3 : k = 3
   ·subst h3; rfl
   ·by_cases h4 : k = 4
    ·subst h4; rfl
    ·by_cases h5 : k = 5
     ·subst h5; rfl
     ·have e1 : (k == 1) = false := by simpa using h1
      have e2 : (k == 2) = false := by simpa using h2
      have e3 : (k == 3) = false := by simpa using h3
      have e4 : (k == 4) = false := by simpa using h4
      have e5 : (k == 5) = false := by simpa using h5
      simp [Instr.findNow, Instr.sameNow, h1, h2, h3, h4, h5, e1, e2, e3, e4, e5]
theorem kind_hit (k : Int) : foundV .nilIface (kindR k) = .tuple #[kindI k, .bool (kindB k)] := by
 unfold kindR kindI kindB
 by_cases h1 : k = 1
 ·subst h1; rfl
 ·by_cases h2 : k = 2
  ·subst h2; rfl
  ·by_cases h3 : k = 3
   ·subst h3; rfl
   ·by_cases h4 : k = 4
    ·subst h4; rfl
    ·by_cases h5 : k = 5
     ·subst h5; rfl
     ·have : (decide (1 ≤ k) && decide (k ≤ 5)) = false := by simp only [Bool.and_eq_false_iff, decide_eq_false_iff_not]; omega
      simp [h1, h2, h3, h4, h5, this, foundV]

theorem Kind_V {R : Ro} (k : Int) : FnV Tryz.prog 70 [.int .i64 k] R (.tuple #[kindI k, .bool (kindB k)]) := by
 refine Fn.toV (fun w0 E => ?_)
 refine fE 25 Tryz.func70 ?_
 refine zQ (zG (zR 2 rfl (zN (zU (zQ (zG ?_))))))
 refine WL.ef rfl rfl qD (Ef.makeMap rfl (fun b7 => ?_))
 -- build
 refine WG.y rfl rfl qD (Yl.build (parts := []) tab_ok rfl rfl rfl rfl (fun _ => rfl) rfl rfl) ?_
 refine WG.y rfl rfl qD (Yl.toIface tab_ok rfl rfl rfl rfl (fun _ => rfl)) ?_
 refine WL.efN rfl rfl (Ef.insert tab_ok rfl rfl rfl rfl rfl rfl rfl rfl rfl ?_)
 -- build
 refine WG.y rfl rfl qD (Yl.build (parts := []) tab_ok rfl rfl rfl rfl (fun _ => rfl) rfl rfl) ?_
 refine WG.y rfl rfl qD (Yl.toIface tab_ok rfl rfl rfl rfl (fun _ => rfl)) ?_
 refine WL.efN rfl rfl (Ef.insert tab_ok rfl rfl rfl rfl rfl rfl rfl rfl rfl ?_)
 -- build
 refine WG.y rfl rfl qD (Yl.build (parts := []) tab_ok rfl rfl rfl rfl (fun _ => rfl) rfl rfl) ?_
 refine WG.y rfl rfl qD (Yl.toIface tab_ok rfl rfl rfl rfl (fun _ => rfl)) ?_
 refine WL.efN rfl rfl (Ef.insert tab_ok rfl rfl rfl rfl rfl rfl rfl rfl rfl ?_)
 -- build
 refine WG.y rfl rfl qD (Yl.build (parts := []) tab_ok rfl rfl rfl rfl (fun _ => rfl) rfl rfl) ?_
 refine WG.y rfl rfl qD (Yl.toIface tab_ok rfl rfl rfl rfl (fun _ => rfl)) ?_
 refine WL.efN rfl rfl (Ef.insert tab_ok rfl rfl rfl rfl rfl rfl rfl rfl rfl ?_)
 -- build
 refine WG.y rfl rfl qD (Yl.build (parts := []) tab_ok rfl rfl rfl rfl (fun _ => rfl) rfl rfl) ?_
 refine WG.y rfl rfl qD (Yl.toIface tab_ok rfl rfl rfl rfl (fun _ => rfl)) ?_
 refine WL.efN rfl rfl (Ef.insert tab_ok rfl rfl rfl rfl rfl rfl rfl rfl rfl ?_)
 refine zR 2 rfl ?_
 refine WG.y rfl rfl qD (Yl.lookup (r := kindR k) (v := .tuple #[kindI k, .bool (kindB k)]) tab_ok rfl rfl rfl rfl rfl rfl rfl rfl (fun _ => rfl) (kind_find k) (kind_hit k)) ?_
 refine zR 5 rfl (zN (zU (zQ (zG (zR 4 rfl (zN (zU (zT ?_))))))))
 refine sE (E := E) ?_
 refine WE.retF tab_ok [_, _] rfl ⟨rfl, rfl, trivial⟩ (RLe.refl _) ?_
 exact ⟨rfl, rfl⟩

theorem IndexI_V {R : Ro} {a : Option Addr} {c : Nat} {xs : List Int} {g : FuncId} {first capd : Array Value} {p : Int → Bool} (ha : RS R 1 encI a xs) (heg : Enters Tryz.prog g) (hp : ∀ i, i < xs.length → FnV Tryz.prog g (first.toList ++ [.int .i64 (nth xs i)] ++ capd.toList) R (.bool (p (nth xs i)))) :
  FnV Tryz.prog 177 [.slice a xs.length c, .func (.func g) first capd] R (.int .i64 (findN (fun i => p (nth xs i)) xs.length)) := by
 have hla := ha.len
 refine Fn.toV (fun w0 E => ?_)
 refine fE 19 Tryz.func177 ?_
 refine zQ (zG (zR 1 rfl (zN (zU (zQ (zQ (zG (zR 3 rfl (zN (zU (zB ?_)))))))))))
 refine W.loopK (β := Nat) (fun k => k ≤ xs.length ∧ ∀ i, i < k → p (nth xs i) = false) (fun k => [(8, true, .int .i64 (k : Int))]) [0, 1, 7] [_, _, _] [] _ rfl (fun k => []) (fun k => xs.length - k) (0) (⟨Nat.zero_le _, fun i hi => absurd hi (Nat.not_lt_zero i)⟩) ⟨rfl, rfl, rfl, rfl, rfl⟩ qS ?_
 intro k hst
 dsimp only [zipE, setAll, List.cons_append, List.nil_append, List.set_cons_zero, List.set_cons_succ] at hst ⊢
 obtain ⟨hk, hpre⟩ := hst
 refine zQ (zG (zR 1 rfl (zN (zU (zQ ?_)))))
 refine W.condD rfl (fun hc0 => ?_) (fun hc0 => ?_)
 ·try dsimp only at hc0
  refine zK (zU (zQ (zB (zQ (zG (zR 2 rfl (zN (zU (zQ (zG (zR 3 rfl ?_)))))))))))
  refine WG.y rfl rfl qD (Yl.indexN tab_ok rfl rfl rfl rfl rfl rfl (fun _ => rfl) qN qH) ?_
  refine yR ?_
  refine WG.callV (v := .bool (p (nth xs k))) heg rfl rfl qD (CallOp.mk' rfl rfl rfl rfl) (fun _ => rfl) (fun hg => hp k qO) ?_
  refine zN (zU ?_)
  refine W.cond rfl (fun hc1 => ?_) (fun hc1 => ?_)
  ·try simp only [zk] at hc1
   refine zQ (zG (zR 2 rfl (zN (zU (zT (wb (wt (wt (wb (wt ?_))))))))))
   refine sE (E := E) ?_
   refine WE.retF tab_ok [_] rfl ⟨rfl, trivial⟩ (RLe.refl _) ?_
   exact ⟨congrArg (Value.int IntKind.i64) (findN_some qO hc1 hpre).symm, rfl⟩
  ·try simp only [zk] at hc1
   refine zK (zL (zU (zG ?_)))
   refine yA ?_
   refine zR 1 rfl (zN ?_)
   refine WE.again (k + 1) (⟨by omega, fun i hi => by rcases Nat.lt_or_ge i k with h | h; exact hpre i h; rw [show i = k by omega]; simpa using hc1⟩) (by (try dsimp only); omega) ⟨rfl, rfl, rfl, rfl, rfl⟩ (RLe.refl _) qS
 ·try dsimp only at hc0
  refine zX ?_
  refine wx (wx (zY (zU (zQ (zG (zR 1 rfl (zN (zU (zT ?_)))))))))
  refine sE (E := E) ?_
  refine WE.retF tab_ok [_] rfl ⟨rfl, trivial⟩ (RLe.refl _) ?_
  exact ⟨congrArg (Value.int IntKind.i64) (findN_none (fun j hj => hpre j qO)).symm, rfl⟩

theorem ContainsI_V {R : Ro} {a : Option Addr} {c : Nat} {xs : List Int} {g : FuncId} {first capd : Array Value} {p : Int → Bool} (ha : RS R 1 encI a xs) (heg : Enters Tryz.prog g) (hp : ∀ i, i < xs.length → FnV Tryz.prog g (first.toList ++ [.int .i64 (nth xs i)] ++ capd.toList) R (.bool (p (nth xs i)))) :
  FnV Tryz.prog 175 [.slice a xs.length c, .func (.func g) first capd] R (.bool (decide (0 ≤ findN (fun i => p (nth xs i)) xs.length))) := by
 refine Fn.toV (fun w0 E => ?_)
 refine fE 9 Tryz.func175 ?_
 refine zQ (zG (zR 1 rfl (zN (zU (zQ (zG (zR 2 rfl ?_)))))))
 refine WG.callV en177 rfl rfl qD (CallOp.mk' rfl rfl rfl rfl) (fun _ => rfl) (fun hg => IndexI_V ha heg hp) ?_
 refine zR 2 rfl (zN (zU (zT ?_)))
 refine sE (E := E) ?_
 refine WE.retF tab_ok [_] rfl ⟨rfl, trivial⟩ (RLe.refl _) ?_
 exact ⟨rfl, rfl⟩

theorem Within1_V {R : Ro} {b4 b5 : Nat} {lo hi x : Int} (h4 : R b4 = some [.int .i64 lo]) (h5 : R b5 = some [.int .i64 hi]) :
  FnV Tryz.prog 176 [.int .i64 x, .pointer (some ⟨b4, 0, none⟩), .pointer (some ⟨b5, 0, none⟩)] R (.bool (outB lo hi x)) := by
 refine Fn.toV (fun w0 E => ?_)
 refine fE 13 Tryz.func176 ?_
 refine zQ (zG (zR 1 rfl (zN (zU (zQ (zG (zR 1 rfl ?_)))))))
 refine' WG.y rfl rfl qD (Yl.load1 tab_ok rfl rfl rfl (fun _ => rfl) ?r1 rfl ?h1) ?_
 case r1 => exact Rd.ro h4
 case h1 => rfl
 refine zR 2 rfl ?_
 refine yP ?_
 refine' WG.y rfl rfl qD (Yl.loadG tab_ok rfl rfl rfl qE ?r2 rfl ?h2 ?g2) ?_
 case r2 => exact fun (_ : True) => Rd.ro h5
 case h2 => rfl
 case g2 => exact fun _ => trivial
 refine yP ?_
 refine yO ?_
 refine zR 1 rfl (zN (zU (zT ?_)))
 refine sE (E := E) ?_
 refine WE.retF tab_ok [_] rfl ⟨rfl, trivial⟩ (RLe.refl _) ?_
 exact ⟨by unfold outB; rfl, rfl⟩

theorem Within_V {R : Ro} {a : Option Addr} {c l : Nat} {xs : List Int} {lo hi : Int} (ha : RS R 1 encI a xs) (hl : xs.length = l) :
  FnV Tryz.prog 174 [.slice a l c, .int .i64 lo, .int .i64 hi] R (.bool (withinB xs lo hi)) := by
 subst hl
 refine Fn.toV (fun w0 E => ?_)
 refine fE 11 Tryz.func174 ?_
 refine zQ (zG ?_)
 refine zO fun b4 => ?_
 refine zO fun b5 => ?_
 refine zR 1 rfl (zN (zU ?_))
 refine W.freezeBlk (b := b4) 1 rfl (fun R1 hR1 hb1 => ?_)
 refine W.freezeBlk (b := b5) 0 rfl (fun R2 hR2 hb2 => ?_)
 refine zQ (zG (zR 2 rfl ?_))
 refine WG.callV en175 rfl rfl qD (CallOp.mk' rfl rfl rfl rfl) (fun _ => rfl) (fun hg => ContainsI_V (ha.mono (hR1.trans hR2)) en176 (fun i hi => Within1_V (hR2 _ _ hb1) hb2)) ?_
 refine zR 2 rfl (zN (zU (zT ?_)))
 refine sE (E := E) ?_
 refine WE.retF tab_ok [_] rfl ⟨rfl, trivial⟩ (hR1.trans hR2) ?_
 exact ⟨congrArg Value.bool within_find, rfl⟩

theorem Lists_V {R : Ro} {a : Option Addr} {c : Nat} {rows : List Sl} {b : Bool} (ha : RS R 1 encS a rows) :
  FnV Tryz.prog 167 [.bool b, .slice a rows.length c] R (.int .i64 (listsE b (rows.map Sl.xs))) := by
 have hla := ha.len
 refine Fn.toV (fun w0 E => ?_)
 refine fE 19 Tryz.func167 ?_
 refine zQ (zG (zR 1 rfl (zN (zU (zQ (zQ (zG (zR 2 rfl (zN (zU ?_))))))))))
 refine W.cond rfl (fun hc0 => ?_) (fun hc0 => ?_)
 ·try simp only [zk] at hc0
  refine zQ (zG (zR 1 rfl (zN (zU (zT (wt ?_))))))
  refine sE (E := E) ?_
  refine WE.retF tab_ok [_] rfl ⟨rfl, trivial⟩ (RLe.refl _) ?_
  exact ⟨by rw [show listsE b (rows.map Sl.xs) = 2 by simp [hc0, listsE]]; rfl, rfl⟩
 ·try simp only [zk] at hc0
  refine zK (zU (zQ (zQ (zG (zR 3 rfl (zN (zU (zB ?_))))))))
  refine W.loopK (β := Nat) (fun k => k ≤ rows.length ∧ ∀ i, i < k → (nth rows i).xs.length = 0) (fun k => [(11, true, .int .i64 (k : Int))]) [9, 10] [_, _] [] _ rfl (fun k => []) (fun k => rows.length - k) (0) (⟨Nat.zero_le _, fun i hi => absurd hi (Nat.not_lt_zero i)⟩) ⟨rfl, rfl, rfl, rfl⟩ qS ?_
  intro k hst
  dsimp only [zipE, setAll, List.cons_append, List.nil_append, List.set_cons_zero, List.set_cons_succ] at hst ⊢
  obtain ⟨hk, hpre⟩ := hst
  refine zQ (zG (zR 1 rfl (zN (zU (zQ ?_)))))
  refine W.condD rfl (fun hc1 => ?_) (fun hc1 => ?_)
  ·try dsimp only at hc1
   refine zK (zU (zQ (zB (zQ (zG ?_)))))
   refine WG.y rfl rfl qD (Yl.indexN tab_ok rfl rfl rfl rfl rfl rfl (fun _ => rfl) qN qH) ?_
   refine yR ?_
   refine zR 1 rfl (zN (zU (zQ (zG (zR 3 rfl (zN (zU ?_)))))))
   refine W.condD rfl (fun hc2 => ?_) (fun hc2 => ?_)
   ·try dsimp only at hc2
    refine zQ (zG (zR 1 rfl (zN (zU (zT (wb (wt (wt (wb (wt ?_))))))))))
    refine sE (E := E) ?_
    refine WE.retF tab_ok [_] rfl ⟨rfl, trivial⟩ (RLe.refl _) ?_
    have hb : b = true := by simpa using hc0
    exact ⟨by unfold listsE; rw [if_neg (by simp [hb]), if_pos (List.any_eq_true.2 ⟨(nth rows k).xs, List.mem_map.2 ⟨_, nth_mem (xs := rows) (k := k) (by omega), rfl⟩, by simp; omega⟩)]; rfl, rfl⟩
   ·try dsimp only at hc2
    refine zK (zL (zU (zG ?_)))
    refine yA ?_
    refine zR 1 rfl (zN ?_)
    refine WE.again (k + 1) (⟨by omega, fun i hi => by rcases Nat.lt_or_ge i k with h | h; exact hpre i h; rw [show i = k by omega]; omega⟩) (by (try dsimp only); omega) ⟨rfl, rfl, rfl, rfl⟩ (RLe.refl _) qS
  ·try dsimp only at hc1
   refine zX ?_
   refine wx (wx (zY (zU (zQ (zG (zR 1 rfl (zN (zU (zT ?_)))))))))
   refine sE (E := E) ?_
   refine WE.retF tab_ok [_] rfl ⟨rfl, trivial⟩ (RLe.refl _) ?_
   have hb : b = true := by simpa using hc0
   have hno : ((rows.map Sl.xs).any fun r => decide (0 < r.length)) = false := by
    rw [List.any_eq_false]
    intro r hr
    obtain ⟨x, hx, rfl⟩ := List.mem_map.1 hr
    obtain ⟨i, hi, rfl⟩ := List.getElem_of_mem hx
    have := hpre i (by omega)
    rw [show nth rows i = rows[i] by unfold nth List.getD; rw [List.getElem?_eq_getElem hi]; rfl] at this
    simp [this]
   exact ⟨by unfold listsE; rw [if_neg (by simp [hb]), hno]; rfl, rfl⟩



theorem ChkFifo_V {R : Ro} {aw at_ : Option Addr} {lw cw lt ct : Nat} {L : Ln} (hw : RS R 1 encI aw L.w) (hlw : L.w.length = lw) (ht : RS R 1 encI at_ L.tb) (hlt : L.tb.length = lt) (hn : 1 ≤ L.n ∧ L.n ≤ 6) : FnV Tryz.prog 164 [.agg #[], .agg #[.int .i64 L.kind, .int .i64 L.cap, .int .i64 L.n, .slice aw lw cw, .slice at_ lt ct]] R (.int .i64 (listsE true [L.w, L.tb])) := by
 subst hlw
 subst hlt
 have hw1 := hw.len
 have ht1 := ht.len
 refine Fn.toV (fun w0 E => ?_)
 refine fE 11 Tryz.func164 ?_
 refine zQ (zG ?_)
 refine zO fun b2 => ?_
 refine zO fun b3 => ?_
 refine zR 1 rfl (zN (zU (zQ (zG (zR 1 rfl ?_)))))
 refine yL (Rd.add (Rd.blk 0 rfl) _) ?_
 refine zR 1 rfl ?_
 refine yL (Rd.add (Rd.blk 0 rfl) _) ?_
 refine WL.ef rfl rfl qD (Ef.buildSliceD (enc := encS) (parts := [.tmp 6, .tmp 8]) [⟨_, _, _⟩, ⟨_, _, _⟩] tab_ok rfl rfl rfl rfl rfl rfl rfl rfl qD qD (fun a9 => ?_))
 refine WL.freeze (enc := encS) (xs := [⟨aw, cw, L.w⟩, ⟨at_, ct, L.tb⟩]) 0 rfl ?_
 intro R1 hR1 hz
 refine WG.callV en167 rfl rfl qD (CallOp.mk' rfl rfl rfl rfl) (fun _ => rfl) (fun hg => Lists_V (rows := [⟨aw, cw, L.w⟩, ⟨at_, ct, L.tb⟩]) hz) ?_
 refine zR 1 rfl (zN (zU (zT ?_)))
 refine sE (E := E) ?_
 refine WE.retF tab_ok [_] rfl ⟨rfl, trivial⟩ (hR1) ?_
 exact ⟨rfl, rfl⟩

theorem ChkRanks_V {R : Ro} {aw at_ : Option Addr} {lw cw lt ct : Nat} {L : Ln} (hw : RS R 1 encI aw L.w) (hlw : L.w.length = lw) (ht : RS R 1 encI at_ L.tb) (hlt : L.tb.length = lt) (hn : 1 ≤ L.n ∧ L.n ≤ 6) : FnV Tryz.prog 168 [.agg #[], .agg #[.int .i64 L.kind, .int .i64 L.cap, .int .i64 L.n, .slice aw lw cw, .slice at_ lt ct]] R (.int .i64 (listsE true [L.w, L.tb])) := by
 subst hlw
 subst hlt
 have hw1 := hw.len
 have ht1 := ht.len
 refine Fn.toV (fun w0 E => ?_)
 refine fE 11 Tryz.func168 ?_
 refine zQ (zG ?_)
 refine zO fun b2 => ?_
 refine zO fun b3 => ?_
 refine zR 1 rfl (zN (zU (zQ (zG (zR 1 rfl ?_)))))
 refine yL (Rd.add (Rd.blk 0 rfl) _) ?_
 refine zR 1 rfl ?_
 refine yL (Rd.add (Rd.blk 0 rfl) _) ?_
 refine WL.ef rfl rfl qD (Ef.buildSliceD (enc := encS) (parts := [.tmp 6, .tmp 8]) [⟨_, _, _⟩, ⟨_, _, _⟩] tab_ok rfl rfl rfl rfl rfl rfl rfl rfl qD qD (fun a9 => ?_))
 refine WL.freeze (enc := encS) (xs := [⟨aw, cw, L.w⟩, ⟨at_, ct, L.tb⟩]) 0 rfl ?_
 intro R1 hR1 hz
 refine WG.callV en167 rfl rfl qD (CallOp.mk' rfl rfl rfl rfl) (fun _ => rfl) (fun hg => Lists_V (rows := [⟨aw, cw, L.w⟩, ⟨at_, ct, L.tb⟩]) hz) ?_
 refine zR 1 rfl (zN (zU (zT ?_)))
 refine sE (E := E) ?_
 refine WE.retF tab_ok [_] rfl ⟨rfl, trivial⟩ (hR1) ?_
 exact ⟨rfl, rfl⟩

theorem ChkRobin_V {R : Ro} {aw at_ : Option Addr} {lw cw lt ct : Nat} {L : Ln} (hw : RS R 1 encI aw L.w) (hlw : L.w.length = lw) (ht : RS R 1 encI at_ L.tb) (hlt : L.tb.length = lt) (hn : 1 ≤ L.n ∧ L.n ≤ 6) : FnV Tryz.prog 171 [.agg #[], .agg #[.int .i64 L.kind, .int .i64 L.cap, .int .i64 L.n, .slice aw lw cw, .slice at_ lt ct]] R (.int .i64 (listsE (decide ((L.w.length : Int) = L.n) && withinB L.w 1 20) [L.tb])) := by
 subst hlw
 subst hlt
 have hw1 := hw.len
 have ht1 := ht.len
 refine Fn.toV (fun w0 E => ?_)
 refine fE 20 Tryz.func171 ?_
 refine zQ (zG ?_)
 refine zO fun b2 => ?_
 refine zO fun b3 => ?_
 refine zR 1 rfl (zN (zU (zQ ?_)))
 refine W.regionH _ (ES := (.blk b3 [.int .i64 L.kind, .int .i64 L.cap, .int .i64 L.n, .slice aw L.w.length cw, .slice at_ L.tb.length ct] :: .blk b2 [] :: E)) mixed ?_
 refine tP 0 ?_
 refine tL 1 (Rd.add (Rd.blk 0 rfl) _) ?_
 refine tP 2 ?_
 refine tP 3 ?_
 refine tL 4 (Rd.add (Rd.blk 0 rfl) _) ?_
 refine tP 5 ?_
 refine tP 6 ?_
 refine WA.take 7 rfl qK qK qK rfl rfl qD (pureV_ok tab_ok rfl qE) qS qR ?_
 refine' WA.take 8 rfl qK qK qK rfl rfl qD (Yl.loadG tab_ok rfl rfl rfl qE ?r3 rfl ?h3 ?g3) qS qR ?_
 case r3 => apply Rd.addC; (exact Rd.blkC 0 rfl)
 case h3 => rfl
 case g3 => exact fun _ => trivial
 refine tP 11 ?_
 refine tL 12 (Rd.add (Rd.blk 0 rfl) _) ?_
 refine WA.br2 (i := 9) (j := 13) qK ?_ ?_
 ·
  refine WS.callV rfl en174 rfl rfl qD (CallOp.mk' rfl rfl rfl rfl) qE (fun hg => Within_V (by first | exact hw | exact hw.mono hR1) rfl) qS qR ?_
  refine WA.take 10 rfl (by kernel_rfl) (by kernel_rfl) (by kernel_rfl) rfl rfl (by decide) (Yl.pand rfl rfl rfl (fun _ => rfl) (by intro h1 h2; simp_all <;> omega)) qS (by first | exact RLe.refl _ | assumption) ?_
  refine WA.eff 13 rfl qK rfl rfl qD (Ef.buildSliceD (enc := encS) (parts := [.tmp 17]) [⟨_, _, _⟩] tab_ok rfl rfl rfl rfl rfl rfl rfl rfl qD qD (fun a18 => ?_))
  refine ⟨qR, qS, ?_⟩
  refine WA.freeze (enc := encS) (xs := [⟨at_, ct, L.tb⟩]) 0 rfl ?_
  intro R1 hR1 hz
  refine WA.callV 14 rfl qK en167 rfl rfl qD (CallOp.mk' rfl rfl rfl rfl) (fun _ => rfl) (fun hg => Lists_V (rows := [⟨at_, ct, L.tb⟩]) hz) qS qR ?_
  refine tP 15 ?_
  refine WA.done qK ?_
  refine zU (zT ?_)
  refine sE (E := E) ?_
  refine WE.retF tab_ok [_] rfl ⟨rfl, trivial⟩ (hR1) ?_
  exact ⟨rfl, rfl⟩
 ·
  refine WS.eff rfl rfl rfl qD (Ef.buildSliceD (enc := encS) (parts := [.tmp 17]) [⟨_, _, _⟩] tab_ok rfl rfl rfl rfl rfl rfl rfl rfl qD qD (fun a18 => ?_))
  refine ⟨qR, qS, ?_⟩
  refine WA.freeze (enc := encS) (xs := [⟨at_, ct, L.tb⟩]) 0 rfl ?_
  intro R1 hR1 hz
  refine WA.callV 9 rfl qK en174 rfl rfl qD (CallOp.mk' rfl rfl rfl rfl) qE (fun hg => Within_V (by first | exact hw | exact hw.mono hR1) rfl) qS qR ?_
  refine WA.take 10 rfl (by kernel_rfl) (by kernel_rfl) (by kernel_rfl) rfl rfl (by decide) (Yl.pand rfl rfl rfl (fun _ => rfl) (by intro h1 h2; simp_all <;> omega)) qS (by first | exact RLe.refl _ | assumption) ?_
  refine WA.callV 14 rfl qK en167 rfl rfl qD (CallOp.mk' rfl rfl rfl rfl) (fun _ => rfl) (fun hg => Lists_V (rows := [⟨at_, ct, L.tb⟩]) hz) qS qR ?_
  refine tP 15 ?_
  refine WA.done qK ?_
  refine zU (zT ?_)
  refine sE (E := E) ?_
  refine WE.retF tab_ok [_] rfl ⟨rfl, trivial⟩ (hR1) ?_
  exact ⟨rfl, rfl⟩

theorem ChkDef_V {R : Ro} {aw at_ : Option Addr} {lw cw lt ct : Nat} {L : Ln} (hw : RS R 1 encI aw L.w) (hlw : L.w.length = lw) (ht : RS R 1 encI at_ L.tb) (hlt : L.tb.length = lt) (hn : 1 ≤ L.n ∧ L.n ≤ 6) : FnV Tryz.prog 178 [.agg #[], .agg #[.int .i64 L.kind, .int .i64 L.cap, .int .i64 L.n, .slice aw lw cw, .slice at_ lt ct]] R (.int .i64 (listsE (decide ((L.w.length : Int) = L.n) && withinB L.w 1 6000) [L.tb])) := by
 subst hlw
 subst hlt
 have hw1 := hw.len
 have ht1 := ht.len
 refine Fn.toV (fun w0 E => ?_)
 refine fE 20 Tryz.func178 ?_
 refine zQ (zG ?_)
 refine zO fun b2 => ?_
 refine zO fun b3 => ?_
 refine zR 1 rfl (zN (zU (zQ ?_)))
 refine W.regionH _ (ES := (.blk b3 [.int .i64 L.kind, .int .i64 L.cap, .int .i64 L.n, .slice aw L.w.length cw, .slice at_ L.tb.length ct] :: .blk b2 [] :: E)) mixed ?_
 refine tP 0 ?_
 refine tL 1 (Rd.add (Rd.blk 0 rfl) _) ?_
 refine tP 2 ?_
 refine tP 3 ?_
 refine tL 4 (Rd.add (Rd.blk 0 rfl) _) ?_
 refine tP 5 ?_
 refine tP 6 ?_
 refine WA.take 7 rfl qK qK qK rfl rfl qD (pureV_ok tab_ok rfl qE) qS qR ?_
 refine' WA.take 8 rfl qK qK qK rfl rfl qD (Yl.loadG tab_ok rfl rfl rfl qE ?r3 rfl ?h3 ?g3) qS qR ?_
 case r3 => apply Rd.addC; (exact Rd.blkC 0 rfl)
 case h3 => rfl
 case g3 => exact fun _ => trivial
 refine tP 11 ?_
 refine tL 12 (Rd.add (Rd.blk 0 rfl) _) ?_
 refine WA.br2 (i := 9) (j := 13) qK ?_ ?_
 ·
  refine WS.callV rfl en174 rfl rfl qD (CallOp.mk' rfl rfl rfl rfl) qE (fun hg => Within_V (by first | exact hw | exact hw.mono hR1) rfl) qS qR ?_
  refine WA.take 10 rfl (by kernel_rfl) (by kernel_rfl) (by kernel_rfl) rfl rfl (by decide) (Yl.pand rfl rfl rfl (fun _ => rfl) (by intro h1 h2; simp_all <;> omega)) qS (by first | exact RLe.refl _ | assumption) ?_
  refine WA.eff 13 rfl qK rfl rfl qD (Ef.buildSliceD (enc := encS) (parts := [.tmp 17]) [⟨_, _, _⟩] tab_ok rfl rfl rfl rfl rfl rfl rfl rfl qD qD (fun a18 => ?_))
  refine ⟨qR, qS, ?_⟩
  refine WA.freeze (enc := encS) (xs := [⟨at_, ct, L.tb⟩]) 0 rfl ?_
  intro R1 hR1 hz
  refine WA.callV 14 rfl qK en167 rfl rfl qD (CallOp.mk' rfl rfl rfl rfl) (fun _ => rfl) (fun hg => Lists_V (rows := [⟨at_, ct, L.tb⟩]) hz) qS qR ?_
  refine tP 15 ?_
  refine WA.done qK ?_
  refine zU (zT ?_)
  refine sE (E := E) ?_
  refine WE.retF tab_ok [_] rfl ⟨rfl, trivial⟩ (hR1) ?_
  exact ⟨rfl, rfl⟩
 ·
  refine WS.eff rfl rfl rfl qD (Ef.buildSliceD (enc := encS) (parts := [.tmp 17]) [⟨_, _, _⟩] tab_ok rfl rfl rfl rfl rfl rfl rfl rfl qD qD (fun a18 => ?_))
  refine ⟨qR, qS, ?_⟩
  refine WA.freeze (enc := encS) (xs := [⟨at_, ct, L.tb⟩]) 0 rfl ?_
  intro R1 hR1 hz
  refine WA.callV 9 rfl qK en174 rfl rfl qD (CallOp.mk' rfl rfl rfl rfl) qE (fun hg => Within_V (by first | exact hw | exact hw.mono hR1) rfl) qS qR ?_
  refine WA.take 10 rfl (by kernel_rfl) (by kernel_rfl) (by kernel_rfl) rfl rfl (by decide) (Yl.pand rfl rfl rfl (fun _ => rfl) (by intro h1 h2; simp_all <;> omega)) qS (by first | exact RLe.refl _ | assumption) ?_
  refine WA.callV 14 rfl qK en167 rfl rfl qD (CallOp.mk' rfl rfl rfl rfl) (fun _ => rfl) (fun hg => Lists_V (rows := [⟨at_, ct, L.tb⟩]) hz) qS qR ?_
  refine tP 15 ?_
  refine WA.done qK ?_
  refine zU (zT ?_)
  refine sE (E := E) ?_
  refine WE.retF tab_ok [_] rfl ⟨rfl, trivial⟩ (hR1) ?_
  exact ⟨rfl, rfl⟩

theorem ChkTimes_V {R : Ro} {aw at_ : Option Addr} {lw cw lt ct : Nat} {L : Ln} (hw : RS R 1 encI aw L.w) (hlw : L.w.length = lw) (ht : RS R 1 encI at_ L.tb) (hlt : L.tb.length = lt) (hn : 1 ≤ L.n ∧ L.n ≤ 6) : FnV Tryz.prog 181 [.agg #[], .agg #[.int .i64 L.kind, .int .i64 L.cap, .int .i64 L.n, .slice aw lw cw, .slice at_ lt ct]] R (.int .i64 (listsE (decide (1 ≤ (L.tb.length : Int)) && decide ((L.tb.length : Int) ≤ 40) && withinB L.tb (-1) (L.n - 1)) [L.w])) := by
 subst hlw
 subst hlt
 have hw1 := hw.len
 have ht1 := ht.len
 refine Fn.toV (fun w0 E => ?_)
 refine fE 27 Tryz.func181 ?_
 refine zQ (zG ?_)
 refine zO fun b2 => ?_
 refine zO fun b3 => ?_
 refine zR 1 rfl (zN (zU (zQ ?_)))
 refine W.regionH _ (ES := (.blk b3 [.int .i64 L.kind, .int .i64 L.cap, .int .i64 L.n, .slice aw L.w.length cw, .slice at_ L.tb.length ct] :: .blk b2 [] :: E)) mixed ?_
 refine tP 0 ?_
 refine tL 1 (Rd.add (Rd.blk 0 rfl) _) ?_
 refine tP 2 ?_
 refine tP 3 ?_
 refine tP 4 ?_
 refine WA.take 5 rfl qK qK qK rfl rfl qD (pureV_ok tab_ok rfl qE) qS qR ?_
 refine' WA.take 6 rfl qK qK qK rfl rfl qD (Yl.loadG tab_ok rfl rfl rfl qE ?r2 rfl ?h2 ?g2) qS qR ?_
 case r2 => apply Rd.addC; (exact Rd.blkC 0 rfl)
 case h2 => rfl
 case g2 => exact fun _ => trivial
 refine WA.take 7 rfl qK qK qK rfl rfl qD (pureV_ok tab_ok rfl qE) qS qR ?_
 refine WA.take 8 rfl qK qK qK rfl rfl qD (pureV_ok tab_ok rfl qE) qS qR ?_
 refine WA.take 9 rfl (by kernel_rfl) (by kernel_rfl) (by kernel_rfl) rfl rfl (by decide) (Yl.pand rfl rfl rfl (fun _ => rfl) (by intro h1 h2; simp_all <;> omega)) qS (by first | exact RLe.refl _ | assumption) ?_
 refine tP 10 ?_
 refine WA.take 11 rfl qK qK qK rfl rfl qD (pureV_ok tab_ok rfl qE) qS qR ?_
 refine' WA.take 12 rfl qK qK qK rfl rfl qD (Yl.loadG tab_ok rfl rfl rfl qE ?r3 rfl ?h3 ?g3) qS qR ?_
 case r3 => apply Rd.addC; (exact Rd.blkC 0 rfl)
 case h3 => rfl
 case g3 => exact fun _ => trivial
 refine WA.take 13 rfl qK qK qK rfl rfl qD (pureV_ok tab_ok rfl qE) qS qR ?_
 refine' WA.take 14 rfl qK qK qK rfl rfl qD (Yl.loadG tab_ok rfl rfl rfl qE ?r4 rfl ?h4 ?g4) qS qR ?_
 case r4 => apply Rd.addC; (exact Rd.blkC 0 rfl)
 case h4 => rfl
 case g4 => exact fun _ => trivial
 refine WA.take 15 rfl (by kernel_rfl) (by kernel_rfl) (by kernel_rfl) rfl rfl (by decide) (Yl.sub rfl rfl rfl qE (by intro hg; (try simp only [zk] at hg); constructor <;> (try dsimp only) <;> omega)) qS (by first | exact RLe.refl _ | assumption) ?_
 refine tP 18 ?_
 refine tL 19 (Rd.add (Rd.blk 0 rfl) _) ?_
 refine WA.br2 (i := 16) (j := 20) qK ?_ ?_
 ·
  refine WS.callV rfl en174 rfl rfl qD (CallOp.mk' rfl rfl rfl rfl) qE (fun hg => Within_V (by first | exact ht | exact ht.mono hR1) rfl) qS qR ?_
  refine WA.take 17 rfl (by kernel_rfl) (by kernel_rfl) (by kernel_rfl) rfl rfl (by decide) (Yl.pand rfl rfl rfl (fun _ => rfl) (by intro h1 h2; simp_all <;> omega)) qS (by first | exact RLe.refl _ | assumption) ?_
  refine WA.eff 20 rfl qK rfl rfl qD (Ef.buildSliceD (enc := encS) (parts := [.tmp 24]) [⟨_, _, _⟩] tab_ok rfl rfl rfl rfl rfl rfl rfl rfl qD qD (fun a25 => ?_))
  refine ⟨qR, qS, ?_⟩
  refine WA.freeze (enc := encS) (xs := [⟨aw, cw, L.w⟩]) 0 rfl ?_
  intro R1 hR1 hz
  refine WA.callV 21 rfl qK en167 rfl rfl qD (CallOp.mk' rfl rfl rfl rfl) (fun _ => rfl) (fun hg => Lists_V (rows := [⟨aw, cw, L.w⟩]) hz) qS qR ?_
  refine tP 22 ?_
  refine WA.done qK ?_
  refine zU (zT ?_)
  refine sE (E := E) ?_
  refine WE.retF tab_ok [_] rfl ⟨rfl, trivial⟩ (hR1) ?_
  exact ⟨rfl, rfl⟩
 ·
  refine WS.eff rfl rfl rfl qD (Ef.buildSliceD (enc := encS) (parts := [.tmp 24]) [⟨_, _, _⟩] tab_ok rfl rfl rfl rfl rfl rfl rfl rfl qD qD (fun a25 => ?_))
  refine ⟨qR, qS, ?_⟩
  refine WA.freeze (enc := encS) (xs := [⟨aw, cw, L.w⟩]) 0 rfl ?_
  intro R1 hR1 hz
  refine WA.callV 16 rfl qK en174 rfl rfl qD (CallOp.mk' rfl rfl rfl rfl) qE (fun hg => Within_V (by first | exact ht | exact ht.mono hR1) rfl) qS qR ?_
  refine WA.take 17 rfl (by kernel_rfl) (by kernel_rfl) (by kernel_rfl) rfl rfl (by decide) (Yl.pand rfl rfl rfl (fun _ => rfl) (by intro h1 h2; simp_all <;> omega)) qS (by first | exact RLe.refl _ | assumption) ?_
  refine WA.callV 21 rfl qK en167 rfl rfl qD (CallOp.mk' rfl rfl rfl rfl) (fun _ => rfl) (fun hg => Lists_V (rows := [⟨aw, cw, L.w⟩]) hz) qS qR ?_
  refine tP 22 ?_
  refine WA.done qK ?_
  refine zU (zT ?_)
  refine sE (E := E) ?_
  refine WE.retF tab_ok [_] rfl ⟨rfl, trivial⟩ (hR1) ?_
  exact ⟨rfl, rfl⟩



theorem meth_check1 (x : Value) : Meth Tryz.prog 129 (.agg #[]) "netcalculus/server.check" 164 [x] := fun w => by kernel_rfl
theorem meth_check2 (x : Value) : Meth Tryz.prog 130 (.agg #[]) "netcalculus/server.check" 168 [x] := fun w => by kernel_rfl
theorem meth_check3 (x : Value) : Meth Tryz.prog 131 (.agg #[]) "netcalculus/server.check" 171 [x] := fun w => by kernel_rfl
theorem meth_check4 (x : Value) : Meth Tryz.prog 132 (.agg #[]) "netcalculus/server.check" 178 [x] := fun w => by kernel_rfl
theorem meth_check5 (x : Value) : Meth Tryz.prog 133 (.agg #[]) "netcalculus/server.check" 181 [x] := fun w => by kernel_rfl

theorem check_any {R : Ro} {aw at_ : Option Addr} {lw cw lt ct : Nat} {L : Ln} (hw : RS R 1 encI aw L.w) (hlw : L.w.length = lw) (ht : RS R 1 encI at_ L.tb) (hlt : L.tb.length = lt) (hn : 1 ≤ L.n ∧ L.n ≤ 6) (hk : 1 ≤ L.kind ∧ L.kind ≤ 5) :
  ∃ (T f : Nat), kindI L.kind = .iface T (.agg #[]) ∧ Meth Tryz.prog T (.agg #[]) "netcalculus/server.check" f [.agg #[.int .i64 L.kind, .int .i64 L.cap, .int .i64 L.n, .slice aw lw cw, .slice at_ lt ct]] ∧ FnV Tryz.prog f [.agg #[], .agg #[.int .i64 L.kind, .int .i64 L.cap, .int .i64 L.n, .slice aw lw cw, .slice at_ lt ct]] R (.int .i64 (lchkL L)) := by
 rcases (show L.kind = 1 ∨ L.kind = 2 ∨ L.kind = 3 ∨ L.kind = 4 ∨ L.kind = 5 by omega) with h | h | h | h | h
 ·exact ⟨_, _, by unfold kindI; rw [h]; rfl, meth_check1 _, by have e : lchkL L = _ := (show lchkL L = listsE true [L.w, L.tb] by unfold lchkL; rw [h]; rfl); rw [e]; exact ChkFifo_V hw hlw ht hlt hn⟩
 ·exact ⟨_, _, by unfold kindI; rw [h]; rfl, meth_check2 _, by have e : lchkL L = _ := (show lchkL L = listsE true [L.w, L.tb] by unfold lchkL; rw [h]; rfl); rw [e]; exact ChkRanks_V hw hlw ht hlt hn⟩
 ·exact ⟨_, _, by unfold kindI; rw [h]; rfl, meth_check3 _, by have e : lchkL L = _ := (show lchkL L = listsE (decide ((L.w.length : Int) = L.n) && withinB L.w 1 20) [L.tb] by unfold lchkL; rw [h]; rfl); rw [e]; exact ChkRobin_V hw hlw ht hlt hn⟩
 ·exact ⟨_, _, by unfold kindI; rw [h]; rfl, meth_check4 _, by have e : lchkL L = _ := (show lchkL L = listsE (decide ((L.w.length : Int) = L.n) && withinB L.w 1 6000) [L.tb] by unfold lchkL; rw [h]; rfl); rw [e]; exact ChkDef_V hw hlw ht hlt hn⟩
 ·exact ⟨_, _, by unfold kindI; rw [h]; rfl, meth_check5 _, by have e : lchkL L = _ := (show lchkL L = listsE (decide (1 ≤ (L.tb.length : Int)) && decide ((L.tb.length : Int) ≤ 40) && withinB L.tb (-1) (L.n - 1)) [L.w] by unfold lchkL; rw [h]; rfl); rw [e]; exact ChkTimes_V hw hlw ht hlt hn⟩

theorem ChkSrv_V {R : Ro} {aw at_ : Option Addr} {lw cw lt ct : Nat} {L : Ln} (hw : RS R 1 encI aw L.w) (hlw : L.w.length = lw) (ht : RS R 1 encI at_ L.tb) (hlt : L.tb.length = lt) : FnV Tryz.prog 42 [.agg #[.int .i64 L.kind, .int .i64 L.cap, .int .i64 L.n, .slice aw lw cw, .slice at_ lt ct]] R (.int .i64 (chkL L)) := by
 refine Fn.toV (fun w0 E => ?_)
 refine fE 34 Tryz.func42 ?_
 refine zQ (zG ?_)
 refine zO fun b1 => ?_
 refine zR 1 rfl (zN (zU (zQ (zG (zR 1 rfl ?_)))))
 refine yL (Rd.add (Rd.blk 0 rfl) _) ?_
 refine WG.callV en70 rfl rfl qD (CallOp.mk' rfl rfl rfl rfl) (fun _ => rfl) (fun hg => Kind_V L.kind) ?_
 refine zR 5 rfl (zN (zU (zQ (zQ (zG (zR 2 rfl (zN (zU ?_))))))))
 refine W.cond rfl (fun hc0 => ?_) (fun hc0 => ?_)
 ·try simp only [zk] at hc0
  have e : chkL L = 9 := by
   unfold chkL
   rw [if_pos]
   unfold kindB at hc0
   simp only [Bool.and_eq_false_iff, decide_eq_false_iff_not] at hc0
   omega
  refine zQ (zG (zR 1 rfl (zN (zU (zT (wt ?_))))))
  refine sE (E := E) ?_
  refine WE.retF tab_ok [_] rfl ⟨rfl, trivial⟩ (RLe.refl _) ?_
  exact ⟨by rw [e]; rfl, rfl⟩
 ·try simp only [zk] at hc0
  have hkk : 1 ≤ L.kind ∧ L.kind ≤ 5 := by
   unfold kindB at hc0
   simpa using hc0
  refine zK (zU (zQ (zQ (zG (zR 1 rfl ?_)))))
  refine yL (Rd.add (Rd.blk 0 rfl) _) ?_
  refine zR 2 rfl ?_
  refine yP ?_
  refine yG (Rd.addC (Rd.blkC 0 rfl) _) ?_
  refine yP ?_
  refine yO ?_
  refine zR 1 rfl ?_
  refine yP ?_
  refine yG (Rd.addC (Rd.blkC 0 rfl) _) ?_
  refine yP ?_
  refine yO ?_
  refine zR 1 rfl ?_
  refine yP ?_
  refine yG (Rd.addC (Rd.blkC 0 rfl) _) ?_
  refine yP ?_
  refine yO ?_
  refine zN (zU ?_)
  refine W.cond rfl (fun hc1 => ?_) (fun hc1 => ?_)
  ·try simp only [zk] at hc1
   have e : chkL L = 2 := by unfold chkL; rw [if_neg (by omega), if_pos (by omega)]
   refine zQ (zG (zR 1 rfl (zN (zU (zT (wt ?_))))))
   refine sE (E := E) ?_
   refine WE.retF tab_ok [_] rfl ⟨rfl, trivial⟩ (RLe.refl _) ?_
   exact ⟨by rw [e]; rfl, rfl⟩
  ·try simp only [zk] at hc1
   have hn : 1 ≤ L.n ∧ L.n ≤ 6 := by omega
   have e : chkL L = lchkL L := by unfold chkL; rw [if_neg (by omega), if_neg (by omega)]
   obtain ⟨T9, f9, e9, m9, v9⟩ := check_any (R := R) (lw := lw) (lt := lt) (cw := cw) (ct := ct) hw hlw ht hlt hn hkk
   refine zK (zU ?_)
   rw [e9]
   refine zQ (zG (zR 1 rfl ?_))
   refine yL (Rd.blk 0 rfl) ?_
   refine WL.callI (args := [.tmp 32]) rfl rfl rfl qD rfl rfl (m9) (v9.toFn) ?_
   rintro _ _ _ - ⟨rfl, rfl, rfl⟩
   refine zR 1 rfl (zN (zU (zT ?_)))
   refine sE (E := E) ?_
   refine WE.retF tab_ok [_] rfl ⟨rfl, trivial⟩ (RLe.refl _) ?_
   exact ⟨by rw [e]; rfl, rfl⟩



set_option maxHeartbeats 4000000 in
theorem FmtL_V {R : Ro} {aw at_ : Option Addr} {cw ct : Nat} {L : Ln} (hw : RS R 1 encI aw L.w) (ht : RS R 1 encI at_ L.tb) {name : List UInt8} (hn : name.length ≤ 1000000) : FnV Tryz.prog 15 [.string (str name), .agg #[.int .i64 L.kind, .int .i64 L.cap, .int .i64 L.n, .slice aw L.w.length cw, .slice at_ L.tb.length ct]] R (.tuple #[.string (str (fmtL name L)), .int .i64 (fmtE name L)]) := by
 refine FnV.ofOwn (fun w0 hb0 => ?_)
 have hwll := hw.len
 have htll := ht.len
 refine fE 105 Tryz.func15 ?_
 refine zQ (zG ?_)
 refine zO fun b3 => ?_
 refine zR 2 rfl (zN (zU (zQ (zQ (zG (zR 1 rfl ?_))))))
 refine WG.callV en41 rfl rfl qD (CallOp.mk' rfl rfl rfl rfl) (fun _ => rfl) (fun hg => Word_V (s := name) qO) ?_
 refine zR 1 rfl (zN (zU ?_))
 refine W.cond rfl (fun hc0 => ?_) (fun hc0 => ?_)
 ·try simp only [zk] at hc0
  have hno : wordB name = false := by simpa using hc0
  have hfe : fmtE name L = 4 := if_pos hno
  refine zQ (zG (zR 2 rfl (zN (zU (zT (wt ?_))))))
  refine WE.subE (E' := []) qS ?_
  refine WE.retF tab_ok [_, _] rfl ⟨rfl, rfl, trivial⟩ (by first | assumption | exact RLe.refl _) ?_
  show Value.tuple #[_, _] = _
  unfold fmtL; rw [hfe]; rfl
 ·try simp only [zk] at hc0
  have hyes : wordB name = true := by simpa using hc0
  have hnl : name.length ≤ 12 := (of_decide_eq_true hyes).2.1
  refine zK (zU (zQ (zQ (zG ?_))))
  refine yL (Rd.blk 0 rfl) ?_
  refine WG.callV en42 rfl rfl qD (CallOp.mk' rfl rfl rfl rfl) (fun _ => rfl) (fun hg => ChkSrv_V hw rfl ht rfl) ?_
  refine zR 1 rfl (zN (zU (zQ (zG (zR 2 rfl (zN (zU ?_)))))))
  refine W.condN rfl (fun hc1 => ?_) (fun hc1 => ?_)
  ·try dsimp only at hc1
   have hfe : fmtE name L = chkL L := by unfold fmtE; rw [if_neg (by rw [hyes]; decide), if_pos hc1]
   refine zQ (zG (zR 3 rfl (zN (zU (zT (wt ?_))))))
   refine WE.subE (E' := []) qS ?_
   refine WE.retF tab_ok [_, _] rfl ⟨rfl, rfl, trivial⟩ (by first | assumption | exact RLe.refl _) ?_
   show Value.tuple #[_, _] = _
   unfold fmtL; rw [hfe, if_neg hc1]; rfl
  ·try dsimp only at hc1
   have hck : chkL L = 0 := by first | exact hc1 | exact Classical.not_not.1 hc1
   have hfe : fmtE name L = if L.kind = 1 ∧ L.n ≠ 1 then 6 else 0 := by unfold fmtE; rw [if_neg (by rw [hyes]; decide), if_neg (fun h => h hck)]
   obtain ⟨hkk, hcp1, hcp2, hn1, hn6, _⟩ := chk_facts hck
   refine zK (zU (zQ ?_))
   refine W.regionH _ (ES := [.blk b3 [.int .i64 L.kind, .int .i64 L.cap, .int .i64 L.n, .slice aw L.w.length cw, .slice at_ L.tb.length ct]]) mixed ?_
   refine tP 0 ?_
   refine tP 1 ?_
   refine tL 2 (Rd.add (Rd.blk 0 rfl) _) ?_
   refine tP 4 ?_
   refine tL 5 (Rd.add (Rd.blk 0 rfl) _) ?_
   refine WA.callV 3 rfl qK en43 rfl rfl qD (CallOp.mk' rfl rfl rfl rfl) (fun _ => rfl) (fun hg => Keyw_V) qS qR ?_
   refine WA.callV 6 rfl qK en38 rfl rfl qD (CallOp.mk' rfl rfl rfl rfl) (fun _ => rfl) (fun hg => Dec24z_V qO qO) qS qR ?_
   refine WA.eff 7 rfl qK rfl rfl qD (Ef.buildSliceD (enc := encT) (parts := [.const (.string ⟨#[108, 105, 110, 101]⟩), .tmp 17, .tmp 20, .tmp 23]) [wLine, name, kwS L.kind, Lib.decDigits L.cap.toNat] tab_ok rfl rfl rfl rfl rfl rfl rfl rfl qD qD (fun a24 => ?_))
   refine ⟨qR, qS, ?_⟩
   refine tP 8 ?_
   refine WA.done qK ?_
   refine zU (zQ (zG (zR 1 rfl ?_)))
   refine yL (Rd.add (Rd.blk 1 rfl) _) ?_
   refine zR 3 rfl ?_
   refine yP ?_
   refine yG (Rd.addC (Rd.blkC 1 rfl) _) ?_
   refine yP ?_
   refine yP ?_
   refine yN ?_
   refine zR 1 rfl (zN (zU ?_))
   refine W.seqCut (β := List (List UInt8) × Option Addr × Nat × Bool) (fun (ws, a7, c7, rt) => rt = decide (fmtE name L = 0) ∧ (rt = true → ws = fmtWords name L) ∧ ws ≠ [] ∧ ws.length ≤ 10) (fun (ws, a7, c7, rt) => [(7, true, .slice a7 ws.length c7), (8, true, .bool rt)]) (fun _ => R) (fun (ws, a7, c7, rt) => [.sl 9 1 a7 c7 (ws.map encT)]) ?_ ?_
   ·
    intro zz hst
    obtain ⟨ws, a7, c7, rt⟩ := zz
    obtain ⟨hrt, hwv, hwn, hwl⟩ := hst
    dsimp only at hrt hwv hwn hwl ⊢
    refine zQ (zQ (zG (zR 2 rfl (zN (zU ?_)))))
    refine W.cond rfl (fun hc2 => ?_) (fun hc2 => ?_)
    ·try simp only [zk] at hc2
     have hrf : rt = false := by simpa using hc2
     refine zQ (zG (zR 2 rfl (zN (zU (zT (wt ?_))))))
     refine WE.subE (E' := []) qS ?_
     refine WE.retF tab_ok [_, _] rfl ⟨rfl, rfl, trivial⟩ (by first | assumption | exact RLe.refl _) ?_
     have hfe6 : fmtE name L = 6 := by
      rw [hfe]
      rw [hfe, hrf] at hrt
      split
      ·rfl
      ·rename_i h; rw [if_neg h] at hrt; exact absurd hrt (by decide)
     show Value.tuple #[_, _] = _
     unfold fmtL; rw [hfe6]; rfl
    ·try simp only [zk] at hc2
     have hrt1 : rt = true := by simpa using hc2
     have hfe0 : fmtE name L = 0 := by rw [hrt1] at hrt; exact of_decide_eq_true hrt.symm
     refine zK (zU ?_)
     refine W.cap 0 rfl ?_
     intro hcl
     refine W.freeze (enc := encT) (xs := ws) 0 rfl ?_
     intro R2 hR2 hws
     refine zQ (zG (zR 1 rfl ?_))
     refine WG.callV en37 rfl rfl (by decide) (CallOp.mk' rfl rfl rfl rfl) (fun _ => rfl) (fun hg => Join_V hws hwn (by simpa using hcl) (by omega) (by rw [hwv hrt1]; exact fmt_le hyes hck)) ?_
     refine zR 2 rfl (zN (zU (zT ?_)))
     refine WE.subE (E' := []) qS ?_
     refine WE.retF tab_ok [_, _] rfl ⟨rfl, rfl, trivial⟩ (by first | assumption | exact RLe.refl _) ?_
     show Value.tuple #[_, _] = _
     unfold fmtL; rw [hfe0, if_pos rfl, hwv hrt1]
   ·
    refine zQ (zG (zR 1 rfl ?_))
    refine yL (Rd.add (Rd.blk 1 rfl) _) ?_
    refine zN (zU (zB (zQ (zG (zR 2 rfl (zN (zU ?_)))))))
    refine W.condE rfl (fun hc3 => ?_) (fun hc3 => ?_)
    ·try dsimp only at hc3
     have hk1 : L.kind = 1 := by omega
     obtain ⟨hw0, ht0⟩ := chk_flat hck (.inl hk1)
     refine zG (zR 2 rfl ?_)
     refine yP ?_
     refine yG (Rd.addC (Rd.blkC 1 rfl) _) ?_
     refine yP ?_
     refine yN ?_
     refine zR 1 rfl (zN (zL ?_))
     refine WE.cut ([wLine, name, kwS L.kind, Lib.decDigits L.cap.toNat], (some ⟨a24, 0, none⟩), 4, _) ⟨by show _ = _; rw [hfe, hw0, ht0]; by_cases h1 : L.n = 1 <;> simp [h1, hk1], by intro _; unfold fmtWords fmtRest; rw [if_pos hk1]; rfl, List.cons_ne_nil _ _, by first | decide | exact Nat.le_of_ble_eq_true rfl⟩ ⟨rfl, rfl, rfl⟩ (RLe.refl _) qS
    ·try dsimp only at hc3
     refine zQ (zG (zR 2 rfl (zN (zU ?_))))
     refine W.condE rfl (fun hc4 => ?_) (fun hc4 => ?_)
     ·try dsimp only at hc4
      have hk2 : L.kind = 2 := by omega
      obtain ⟨hw0, ht0⟩ := chk_flat hck (.inr hk2)
      refine zG (zR 2 rfl ?_)
      refine yL (Rd.add (Rd.blk 1 rfl) _) ?_
      refine WG.callV en38 rfl rfl qD (CallOp.mk' rfl rfl rfl rfl) (fun _ => rfl) (fun hg => Dec24z_V qO qO) ?_
      refine WL.ef rfl rfl qD (Ef.buildSliceD (enc := encT) (parts := [.tmp 50]) [_] tab_ok rfl rfl rfl rfl rfl rfl rfl rfl qD qD (fun a51 => ?_))
      refine WL.ef rfl rfl (by decide) (Ef.appendD 1 0 tab_ok rfl rfl rfl rfl rfl rfl rfl rfl rfl rfl rfl (fun _ _ => rfl) (by simp only [List.length_cons, List.length_nil]; omega) (by simp only [List.length_cons, List.length_nil]; omega) (fun a52 c52 ha52 => ?_))
      refine zR 1 rfl (zN (zL ?_))
      refine WE.cut ([wLine, name, kwS L.kind, Lib.decDigits L.cap.toNat] ++ [Lib.decDigits L.n.toNat], a52, c52, _) ⟨by show _ = _; rw [hfe, hw0, ht0]; simp [hk2], by intro _; unfold fmtWords fmtRest; rw [if_neg (by omega), if_pos hk2], List.cons_ne_nil _ _, by first | decide | exact Nat.le_of_ble_eq_true rfl⟩ ⟨rfl, rfl, rfl⟩ (RLe.refl _) qS
     ·try dsimp only at hc4
      refine zQ (zQ (zG (zR 2 rfl (zN (zU ?_)))))
      refine W.condE rfl (fun hc5 => ?_) (fun hc5 => ?_)
      ·try dsimp only at hc5
       have hk3 : L.kind = 3 := by omega
       obtain ⟨hr1, hr2, hr3⟩ := chk_rob hck hk3
       refine zK (zU ?_)
       refine W.condE rfl (fun hc6 => ?_) (fun hc6 => ?_)
       ·try dsimp only at hc6
        refine zQ (zG (zR 1 rfl ?_))
        refine yL (Rd.add (Rd.blk 1 rfl) _) ?_
        refine zR 2 rfl ?_
        refine yL (Rd.add (Rd.blk 1 rfl) _) ?_
        refine zR 2 rfl ?_
        refine yP ?_
        refine yG (Rd.addC (Rd.blkC 1 rfl) _) ?_
        refine yP ?_
        refine yP ?_
        refine yN ?_
        refine zR 1 rfl ?_
        refine yP ?_
        refine yG (Rd.addC (Rd.blkC 1 rfl) _) ?_
        refine yP ?_
        refine yP ?_
        refine yN ?_
        refine zR 1 rfl (zN (zU (zG (zR 2 rfl ?_))))
        refine yL (Rd.add (Rd.blk 1 rfl) _) ?_
        refine WG.callV en44 rfl rfl (by decide) (CallOp.mk' rfl rfl rfl rfl) (fun _ => rfl) (fun hg => ListN_V hw (by intro h; rw [h] at hr1; simp at hr1; omega) (by omega) (fun x hx => by have := within_mem hr2 x hx; omega) (by have := lstS_le (fun x hx => by have := within_mem hr2 x hx; omega); omega)) ?_
        refine WL.ef rfl rfl qD (Ef.buildSliceD (enc := encT) (parts := [.tmp 77]) [_] tab_ok rfl rfl rfl rfl rfl rfl rfl rfl qD qD (fun a78 => ?_))
        refine WL.ef rfl rfl (by decide) (Ef.appendD 1 0 tab_ok rfl rfl rfl rfl rfl rfl rfl rfl rfl rfl rfl (fun _ _ => rfl) (by simp only [List.length_cons, List.length_nil]; omega) (by simp only [List.length_cons, List.length_nil]; omega) (fun a79 c79 ha79 => ?_))
        refine zR 1 rfl (zN (zL ?_))
        refine WE.cut ([wLine, name, kwS L.kind, Lib.decDigits L.cap.toNat] ++ [lstS L.w], a79, c79, _) ⟨by show _ = _; rw [hfe, hr3]; simp [hk3]; omega, by intro _; unfold fmtWords fmtRest; rw [if_neg (by omega), if_neg (by omega), if_pos (.inl hk3)], List.cons_ne_nil _ _, by first | decide | exact Nat.le_of_ble_eq_true rfl⟩ ⟨rfl, rfl, rfl⟩ (RLe.refl _) qS
       ·try dsimp only at hc6
        exact absurd hc5 hc6
      ·try dsimp only at hc5
       refine zG (zR 2 rfl (zN (zU ?_)))
       refine W.condE rfl (fun hc7 => ?_) (fun hc7 => ?_)
       ·try dsimp only at hc7
        have hk4 : L.kind = 4 := by omega
        obtain ⟨hr1, hr2, hr3⟩ := chk_def hck hk4
        refine zQ (zG (zR 1 rfl ?_))
        refine yL (Rd.add (Rd.blk 1 rfl) _) ?_
        refine zR 2 rfl ?_
        refine yL (Rd.add (Rd.blk 1 rfl) _) ?_
        refine zR 2 rfl ?_
        refine yP ?_
        refine yG (Rd.addC (Rd.blkC 1 rfl) _) ?_
        refine yP ?_
        refine yP ?_
        refine yN ?_
        refine zR 1 rfl ?_
        refine yP ?_
        refine yG (Rd.addC (Rd.blkC 1 rfl) _) ?_
        refine yP ?_
        refine yP ?_
        refine yN ?_
        refine zR 1 rfl (zN (zU (zG (zR 2 rfl ?_))))
        refine yL (Rd.add (Rd.blk 1 rfl) _) ?_
        refine WG.callV en44 rfl rfl (by decide) (CallOp.mk' rfl rfl rfl rfl) (fun _ => rfl) (fun hg => ListN_V hw (by intro h; rw [h] at hr1; simp at hr1; omega) (by omega) (fun x hx => by have := within_mem hr2 x hx; omega) (by have := lstS_le (fun x hx => by have := within_mem hr2 x hx; omega); omega)) ?_
        refine WL.ef rfl rfl qD (Ef.buildSliceD (enc := encT) (parts := [.tmp 77]) [_] tab_ok rfl rfl rfl rfl rfl rfl rfl rfl qD qD (fun a78 => ?_))
        refine WL.ef rfl rfl (by decide) (Ef.appendD 1 0 tab_ok rfl rfl rfl rfl rfl rfl rfl rfl rfl rfl rfl (fun _ _ => rfl) (by simp only [List.length_cons, List.length_nil]; omega) (by simp only [List.length_cons, List.length_nil]; omega) (fun a79 c79 ha79 => ?_))
        refine zR 1 rfl (zN (zL ?_))
        refine WE.cut ([wLine, name, kwS L.kind, Lib.decDigits L.cap.toNat] ++ [lstS L.w], a79, c79, _) ⟨by show _ = _; rw [hfe, hr3]; simp [hk4]; omega, by intro _; unfold fmtWords fmtRest; rw [if_neg (by omega), if_neg (by omega), if_pos (.inr hk4)], List.cons_ne_nil _ _, by first | decide | exact Nat.le_of_ble_eq_true rfl⟩ ⟨rfl, rfl, rfl⟩ (RLe.refl _) qS
       ·try dsimp only at hc7
        refine zQ (zG (zR 2 rfl (zN (zU ?_))))
        refine W.condE rfl (fun hc8 => ?_) (fun hc8 => ?_)
        ·try dsimp only at hc8
         have hk5 : L.kind = 5 := by omega
         obtain ⟨hs1, hs2, hs3⟩ := chk_times hck hk5
         refine zQ (zG (zR 1 rfl ?_))
         refine yL (Rd.add (Rd.blk 1 rfl) _) ?_
         refine zR 3 rfl ?_
         refine yP ?_
         refine yG (Rd.addC (Rd.blkC 1 rfl) _) ?_
         refine yP ?_
         refine yP ?_
         refine yN ?_
         refine zR 1 rfl (zN (zU ?_))
         refine W.regionH _ (ES := [.blk b3 [.int .i64 L.kind, .int .i64 L.cap, .int .i64 L.n, .slice aw L.w.length cw, .slice at_ L.tb.length ct]]) mixed ?_
         refine tP 0 ?_
         refine tP 1 ?_
         refine tL 2 (Rd.add (Rd.blk 0 rfl) _) ?_
         refine tP 4 ?_
         refine tL 5 (Rd.add (Rd.blk 0 rfl) _) ?_
         refine WA.callV 3 rfl qK en38 rfl rfl qD (CallOp.mk' rfl rfl rfl rfl) (fun _ => rfl) (fun hg => Dec24z_V qO qO) qS qR ?_
         refine WA.callV 6 rfl (by kernel_rfl) en44 rfl rfl (by decide) (CallOp.mk' rfl rfl rfl rfl) (fun _ => rfl) (fun hg => ListN_V ht (by intro h; rw [h] at hs1; simp at hs1) (by omega) (fun x hx => by have := within_mem hs2 x hx; omega) (by have := lstS_le (fun x hx => by have := within_mem hs2 x hx; omega); omega)) qS (by first | exact RLe.refl _ | assumption) ?_
         refine WA.eff 7 rfl qK rfl rfl qD (Ef.buildSliceD (enc := encT) (parts := [.tmp 95, .tmp 98]) [_, _] tab_ok rfl rfl rfl rfl rfl rfl rfl rfl qD qD (fun a99 => ?_))
         refine ⟨qR, qS, ?_⟩
         refine WA.eff 8 rfl (by kernel_rfl) rfl rfl (by decide) (Ef.appendD 1 0 tab_ok rfl rfl rfl rfl rfl rfl rfl rfl rfl rfl rfl (fun _ _ => rfl) (by simp only [List.length_cons, List.length_nil]; omega) (by simp only [List.length_cons, List.length_nil]; omega) (fun a100 c100 ha100 => ?_))
         refine ⟨qR, qS, ?_⟩
         refine tP 9 ?_
         refine WA.done qK ?_
         refine zL ?_
         refine WE.cut ([wLine, name, kwS L.kind, Lib.decDigits L.cap.toNat] ++ [Lib.decDigits L.n.toNat, lstS L.tb], a100, c100, _) ⟨by show _ = _; rw [hfe, hs3]; simp [hk5]; omega, by intro _; unfold fmtWords fmtRest; rw [if_neg (by omega), if_neg (by omega), if_neg (by omega)], List.cons_ne_nil _ _, by first | decide | exact Nat.le_of_ble_eq_true rfl⟩ ⟨rfl, rfl, rfl⟩ (RLe.refl _) qS
        ·try dsimp only at hc8
         exact absurd hkk qO

end Go.Proofs.YtmidibkljoaoiaaGreatDoor

/- Rules: maps whose keys are strings. No condition. -/
namespace Go.Proofs.YtmidibkljoaoiaaGreatDoor.K
open Go Go.RowKit Go.Proofs.YtmidibkljoaoiaaGreatDoor.M
section
variable {P : Program} {T : Tab} {n : Nat} {env : Env} {w0 : World} {R : Ro} {E : List Ent} {o : Oper} {pc p q : Bool}
/-- the entries of a set of names, in the order in which they came -/
def entS : Nat → List (List UInt8) → List MapEntry
  | _, [] => []
  | k, x :: l => { key := .string (str x), val := .bool true, born := k } :: entS (k + 1) l
def setO (l : List (List UInt8)) : Obj := .map (entS 0 l).toArray l.length
theorem entS_snoc : ∀ (l : List (List UInt8)) (k : Nat) (x : List UInt8), entS k (l ++ [x]) = entS k l ++ [{ key := .string (str x), val := .bool true, born := k + l.length }]
 | [], k, x => by simp [entS]
 | y :: l, k, x => by
  rw [List.cons_append, entS, entS_snoc l (k + 1) x, entS, List.length_cons, show k + 1 + l.length = k + (l.length + 1) by omega]
  rfl
theorem setO_snoc (l : List (List UInt8)) (x : List UInt8) : Obj.map ((entS 0 l).toArray.push { key := .string (str x), val := .bool true, born := l.length }) (l.length + 1) = setO (l ++ [x]) := by
 unfold setO
 rw [entS_snoc, List.length_append, Nat.zero_add]
 simp
theorem same_str (x y : List UInt8) : Instr.sameNow .string (.string (str x)) (.string (str y)) = some (decide (x = y)) := by
 have h : (str x == str y) = decide (x = y) := by
  show ((str x).data == (str y).data) = _
  by_cases e : x = y
  ·subst e; rw [decide_eq_true rfl]; exact beq_iff_eq.2 rfl
  ·rw [decide_eq_false e]; exact beq_eq_false_iff_ne.2 (fun h => e (str_inj (ByteArray.ext h)))
 show some (str x == str y) = _
 rw [h]
theorem find_no : ∀ (l : List (List UInt8)) (k i : Nat) (x : List UInt8), x ∉ l → Instr.findNow .string (.string (str x)) (entS k l) i = some none
 | [], _, _, _, _ => rfl
 | y :: l, k, i, x, h => by
  have h1 : x ≠ y := fun e => h (by rw [e]; simp)
  have h2 := find_no l (k + 1) (i + 1) x (fun hx => h (by simp [hx]))
  unfold entS Instr.findNow
  simp [same_str, h1, h2]
theorem find_yes : ∀ (l : List (List UInt8)) (k i : Nat) (x : List UInt8), x ∈ l → ∃ j, Instr.findNow .string (.string (str x)) (entS k l) i = some (some (j, .bool true))
 | [], _, _, _, h => by simp at h
 | y :: l, k, i, x, h => by
  unfold entS Instr.findNow
  by_cases h1 : x = y
  ·subst h1
   exact ⟨i, by simp [same_str]⟩
  ·obtain ⟨j, h2⟩ := find_yes l (k + 1) (i + 1) x (by rcases List.mem_cons.1 h with h | h; exact absurd h h1; exact h)
   exact ⟨j, by simp [same_str, h1, h2]⟩
theorem Ef.setAdd {K : Value → Ro → List Ent → Prop} {t kt et : TypeId} {x y z : Operand} {b : Nat} {l : List (List UInt8)} {s : List UInt8} {d d2 : TD} (hT : TabOk P T) (ho : o.op = .mapUpdate t x y z) (hd : T.at t = some d) (hkd : d.k = .map kt et) (hd2 : T.at kt = some d2) (hk2 : d2.k = .str)
  (hx : ev env x = some (true, .map (some b))) (hy : ev env y = some (true, .string (str s))) (hz : ev env z = some (true, .bool true)) (hf : s ∉ l)
  (hK : K undef R (.obj b (setO (l ++ [s])) :: E)) : Ef P n env w0 R (.obj b (setO l) :: E) o K := by
 intro a w hk hm
 have hb := hm.getObj
 have hm1 := under_map hT hd hkd
 have hu2 := hT.str hd2 hk2
 have hc : (Instr.checkKey false 10000 kt (.string (str s))).run P w = .ok () w := MapKept.run_checkKey (k := .string (str s)) hu2 (by simp [MapKept.IsKey]) false 9999
 rw [← setO_snoc] at hK
 have hf' : Instr.findNow .string (.string (str s)) (entS 0 l).toArray.toList 0 = some none := find_no l 0 0 s hf
 refine ⟨undef, w.putObj b _, R, _, .inr ⟨?_, rfl⟩, hm.putObj _, hK⟩
 unfold execOp
 unfold setO at hb
 simp [ho, hk.ev hx rfl, hk.ev hy rfl, hk.ev hz rfl, Instr.mapUpdate, run_underlying hm1, MapKept.run_getObj_map hb, hc, MapKept.run_findKey hu2 hf', MapKept.run_setObj_map _ hb, Result.andThen, World.putObj]
theorem Yl.setHas {t kt et : TypeId} {x y : Operand} {b : Nat} {l : List (List UInt8)} {s : List UInt8} {d d2 : TD} (hT : TabOk P T) (ho : o.op = .lookup t x y false) (hd : T.at t = some d) (hkd : d.k = .map kt et) (hd2 : T.at kt = some d2) (hk2 : d2.k = .str) (hz : (P.info? et).bind (·.zero) = some (.bool false))
  (hx : ev env x = some (p, .map (some b))) (hy : ev env y = some (q, .string (str s))) (hpq : pc = true → (p && q) = true) : Yl P n env w0 R (.obj b (setO l) :: E) o pc (.bool (decide (s ∈ l))) := by
 intro a w hk hm hpc
 obtain ⟨h1, h2⟩ := and_both (hpq hpc)
 have hb := hm.getObj
 have hm1 := under_map hT hd hkd
 have hu2 := hT.str hd2 hk2
 have hc : ∀ e, (Instr.checkKey e 10000 kt (.string (str s))).run P w = .ok () w := fun e => MapKept.run_checkKey (k := .string (str s)) hu2 (by simp [MapKept.IsKey]) e 9999
 have hz' : (zeroValue et).run P w = .ok (.bool false) w := by
  cases hi : P.info? et with
  | none => rw [hi] at hz; cases hz
  | some inf =>
   rw [hi] at hz
   have : inf.zero = some (.bool false) := hz
   simp [zeroValue, typeInfo, hi, this]
 unfold setO at hb
 unfold execOp
 by_cases hs : s ∈ l
 ·obtain ⟨j, hf⟩ := find_yes l 0 0 s hs
  have hf' : Instr.findNow .string (.string (str s)) (entS 0 l).toArray.toList 0 = some (some (j, .bool true)) := hf
  simp [ho, hk.ev hx h1, hk.ev hy h2, Instr.lookup, run_underlying hm1, MapKept.run_getObj_map hb, hc, MapKept.run_findKey hu2 hf', Result.andThen, hs]
 ·have hf' : Instr.findNow .string (.string (str s)) (entS 0 l).toArray.toList 0 = some none := find_no l 0 0 s hs
  simp [ho, hk.ev hx h1, hk.ev hy h2, Instr.lookup, run_underlying hm1, MapKept.run_getObj_map hb, hc, MapKept.run_findKey hu2 hf', hz', Result.andThen, hs]
end
end Go.Proofs.YtmidibkljoaoiaaGreatDoor.K

/- Chapter 24: a set of names. No condition. -/
set_option maxRecDepth 4000
set_option linter.unusedSimpArgs false
set_option linter.unusedVariables false
namespace Go.Proofs.YtmidibkljoaoiaaGreatDoor
open Go Go.RowKit Go.Proofs.YtmidibkljoaoiaaGreatDoor.K Go.Proofs.YtmidibkljoaoiaaGreatDoor.M

theorem Fresh_C {R : Ro} {b : Nat} {met : List (List UInt8)} {n : List UInt8} (hn : n.length ≤ 9223372036854775807) (w0 : World) : FnAt Tryz.prog 62 [.map (some b), .string (str n)] w0 R (.obj b (setO met)) (fun v R' e' N => v = .int .i64 (frE met n) ∧ R = R' ∧ e' = .obj b (setO (if frE met n = 0 then met ++ [n] else met)) ∧ N = []) := by
 intro F
 refine fE 13 Tryz.func62 ?_
 refine zQ (zG (zR 1 rfl (zN (zU (zQ (zQ (zG (zR 1 rfl ?_))))))))
 refine WG.callV en41 rfl rfl qD (CallOp.mk' rfl rfl rfl rfl) (fun _ => rfl) (fun hg => Word_V (s := n) hn) ?_
 refine zR 1 rfl (zN (zU ?_))
 refine W.cond rfl (fun hc0 => ?_) (fun hc0 => ?_)
 ·try simp only [zk] at hc0
  have hw : wordB n = false := by simpa using hc0
  have hf : frE met n = 4 := if_pos hw
  refine zQ (zG (zR 1 rfl (zN (zU (zT (wt ?_))))))
  refine WE.retF tab_ok [_] rfl ⟨rfl, trivial⟩ (RLe.refl _) ?_
  exact ⟨_, [], rfl, by rw [hf]; rfl, rfl, by rw [hf]; rfl, rfl⟩
 ·try simp only [zk] at hc0
  have hw : wordB n = true := by simpa using hc0
  refine zK (zU (zQ (zQ (zG (zR 2 rfl ?_)))))
  refine WG.y rfl rfl qD (Yl.setHas tab_ok rfl rfl rfl rfl rfl rfl rfl rfl (fun _ => rfl)) ?_
  refine zN (zU ?_)
  refine W.cond rfl (fun hc1 => ?_) (fun hc1 => ?_)
  ·try simp only [zk] at hc1
   have hi : n ∈ met := by simpa using hc1
   have hf : frE met n = 60 := by unfold frE; rw [if_neg (by rw [hw]; decide), if_pos hi]
   refine zQ (zG (zR 1 rfl (zN (zU (zT (wt ?_))))))
   refine WE.retF tab_ok [_] rfl ⟨rfl, trivial⟩ (RLe.refl _) ?_
   exact ⟨_, [], rfl, by rw [hf]; rfl, rfl, by rw [hf]; rfl, rfl⟩
  ·try simp only [zk] at hc1
   have hi : n ∉ met := by simpa using hc1
   have hf : frE met n = 0 := by unfold frE; rw [if_neg (by rw [hw]; decide), if_neg hi]
   refine zK (zU (zQ (zG (zR 2 rfl ?_))))
   refine WL.efN rfl rfl (Ef.setAdd tab_ok rfl rfl rfl rfl rfl rfl rfl rfl (by simpa using hc1) ?_)
   refine zN (zU (zQ (zG (zR 1 rfl (zN (zU (zT ?_)))))))
   refine WE.retF tab_ok [_] rfl ⟨rfl, trivial⟩ (RLe.refl _) ?_
   exact ⟨_, [], rfl, by rw [hf]; rfl, rfl, by rw [hf, if_pos rfl], rfl⟩

end Go.Proofs.YtmidibkljoaoiaaGreatDoor

/- Rules: sets of numbers (maps whose keys are numbers). No condition. -/
namespace Go.Proofs.YtmidibkljoaoiaaGreatDoor.K
open Go Go.RowKit Go.Proofs.YtmidibkljoaoiaaGreatDoor.M
section
variable {P : Program} {T : Tab} {n : Nat} {env : Env} {w0 : World} {R : Ro} {E : List Ent} {o : Oper} {pc p q : Bool}
/-- the entries of a set of numbers, in the order in which they came -/
def entZ : Nat → List Int → List MapEntry
  | _, [] => []
  | k, x :: l => { key := .int .i64 x, val := .bool true, born := k } :: entZ (k + 1) l
def setZ (l : List Int) : Obj := .map (entZ 0 l).toArray l.length
theorem entZ_snoc : ∀ (l : List Int) (k : Nat) (x : Int), entZ k (l ++ [x]) = entZ k l ++ [{ key := .int .i64 x, val := .bool true, born := k + l.length }]
 | [], k, x => by simp [entZ]
 | y :: l, k, x => by
  rw [List.cons_append, entZ, entZ_snoc l (k + 1) x, entZ, List.length_cons, show k + 1 + l.length = k + (l.length + 1) by omega]
  rfl
theorem setZ_snoc (l : List Int) (x : Int) : Obj.map ((entZ 0 l).toArray.push { key := .int .i64 x, val := .bool true, born := l.length }) (l.length + 1) = setZ (l ++ [x]) := by
 unfold setZ
 rw [entZ_snoc, List.length_append, Nat.zero_add]
 simp
theorem same_int (x y : Int) : Instr.sameNow (.int .i64) (.int .i64 x) (.int .i64 y) = some (decide (x = y)) := by
 show some (x == y) = _
 rw [show (x == y) = decide (x = y) by by_cases e : x = y <;> simp [e]]
theorem findZ_no : ∀ (l : List Int) (k i : Nat) (x : Int), x ∉ l → Instr.findNow (.int .i64) (.int .i64 x) (entZ k l) i = some none
 | [], _, _, _, _ => rfl
 | y :: l, k, i, x, h => by
  have h1 : x ≠ y := fun e => h (by rw [e]; simp)
  have h2 := findZ_no l (k + 1) (i + 1) x (fun hx => h (by simp [hx]))
  unfold entZ Instr.findNow
  simp [same_int, h1, h2]
theorem findZ_yes : ∀ (l : List Int) (k i : Nat) (x : Int), x ∈ l → ∃ j, Instr.findNow (.int .i64) (.int .i64 x) (entZ k l) i = some (some (j, .bool true))
 | [], _, _, _, h => by simp at h
 | y :: l, k, i, x, h => by
  unfold entZ Instr.findNow
  by_cases h1 : x = y
  ·subst h1
   exact ⟨i, by simp [same_int]⟩
  ·obtain ⟨j, h2⟩ := findZ_yes l (k + 1) (i + 1) x (by rcases List.mem_cons.1 h with h | h; exact absurd h h1; exact h)
   exact ⟨j, by simp [same_int, h1, h2]⟩
theorem Ef.setAddI {K : Value → Ro → List Ent → Prop} {t kt et : TypeId} {x y z : Operand} {b : Nat} {l : List Int} {s : Int} {d d2 : TD} (hT : TabOk P T) (ho : o.op = .mapUpdate t x y z) (hd : T.at t = some d) (hkd : d.k = .map kt et) (hd2 : T.at kt = some d2) (hk2 : d2.k = .int .i64)
  (hx : ev env x = some (true, .map (some b))) (hy : ev env y = some (true, .int .i64 s)) (hz : ev env z = some (true, .bool true)) (hf : s ∉ l)
  (hK : K undef R (.obj b (setZ (l ++ [s])) :: E)) : Ef P n env w0 R (.obj b (setZ l) :: E) o K := by
 intro a w hk hm
 have hb := hm.getObj
 have hm1 := under_map hT hd hkd
 have hu2 := under_int hT hd2 hk2
 have hc : (Instr.checkKey false 10000 kt (.int .i64 s)).run P w = .ok () w := MapKept.run_checkKey (k := .int .i64 s) hu2 (by simp [MapKept.IsKey]) false 9999
 rw [← setZ_snoc] at hK
 have hf' : Instr.findNow (.int .i64) (.int .i64 s) (entZ 0 l).toArray.toList 0 = some none := findZ_no l 0 0 s hf
 refine ⟨undef, w.putObj b _, R, _, .inr ⟨?_, rfl⟩, hm.putObj _, hK⟩
 unfold execOp
 unfold setZ at hb
 simp [ho, hk.ev hx rfl, hk.ev hy rfl, hk.ev hz rfl, Instr.mapUpdate, run_underlying hm1, MapKept.run_getObj_map hb, hc, MapKept.run_findKey hu2 hf', MapKept.run_setObj_map _ hb, Result.andThen, World.putObj]
theorem Yl.setHasI {t kt et : TypeId} {x y : Operand} {b : Nat} {l : List Int} {s : Int} {d d2 : TD} (hT : TabOk P T) (ho : o.op = .lookup t x y false) (hd : T.at t = some d) (hkd : d.k = .map kt et) (hd2 : T.at kt = some d2) (hk2 : d2.k = .int .i64) (hz : (P.info? et).bind (·.zero) = some (.bool false))
  (hx : ev env x = some (p, .map (some b))) (hy : ev env y = some (q, .int .i64 s)) (hpq : pc = true → (p && q) = true) : Yl P n env w0 R (.obj b (setZ l) :: E) o pc (.bool (decide (s ∈ l))) := by
 intro a w hk hm hpc
 obtain ⟨h1, h2⟩ := and_both (hpq hpc)
 have hb := hm.getObj
 have hm1 := under_map hT hd hkd
 have hu2 := under_int hT hd2 hk2
 have hc : ∀ e, (Instr.checkKey e 10000 kt (.int .i64 s)).run P w = .ok () w := fun e => MapKept.run_checkKey (k := .int .i64 s) hu2 (by simp [MapKept.IsKey]) e 9999
 have hz' : (zeroValue et).run P w = .ok (.bool false) w := by
  cases hi : P.info? et with
  | none => rw [hi] at hz; cases hz
  | some inf =>
   rw [hi] at hz
   have : inf.zero = some (.bool false) := hz
   simp [zeroValue, typeInfo, hi, this]
 unfold setZ at hb
 unfold execOp
 by_cases hs : s ∈ l
 ·obtain ⟨j, hf⟩ := findZ_yes l 0 0 s hs
  have hf' : Instr.findNow (.int .i64) (.int .i64 s) (entZ 0 l).toArray.toList 0 = some (some (j, .bool true)) := hf
  simp [ho, hk.ev hx h1, hk.ev hy h2, Instr.lookup, run_underlying hm1, MapKept.run_getObj_map hb, hc, MapKept.run_findKey hu2 hf', Result.andThen, hs]
 ·have hf' : Instr.findNow (.int .i64) (.int .i64 s) (entZ 0 l).toArray.toList 0 = some none := findZ_no l 0 0 s hs
  simp [ho, hk.ev hx h1, hk.ev hy h2, Instr.lookup, run_underlying hm1, MapKept.run_getObj_map hb, hc, MapKept.run_findKey hu2 hf', hz', Result.andThen, hs]
end
end Go.Proofs.YtmidibkljoaoiaaGreatDoor.K

/- Finite curves: values, gains, validity. No condition. -/
set_option maxRecDepth 4000
set_option linter.unusedSimpArgs false
set_option linter.unusedVariables false
namespace Go.Proofs.YtmidibkljoaoiaaGreatDoor
open Go Go.RowKit Go.Proofs.YtmidibkljoaoiaaGreatDoor.K Go.Proofs.YtmidibkljoaoiaaGreatDoor.M





theorem WFiniteG_V {R : Ro} {fa : Option Addr} {fc : Nat} {c : Cv} (hv : validB c = true) (ha : RS R 1 encI fa c.vals) : FnV Tryz.prog 94 [.agg #[.slice fa c.vals.length fc, .int .i64 c.per, .int .i64 c.inc]] R (.bool (finB c)) := by
 refine Fn.toV (fun w0 E => ?_)
 obtain ⟨hr1, hr2, hr3, hr4, hr5, hr6, hr7, hr8⟩ := valid_range hv
 have hl : ((c.vals.length : Int) - 1).toNat = c.vals.length - 1 := by omega
 refine fE 12 Tryz.func94 ?_
 refine zQ (zG ?_)
 refine zO fun b1 => ?_
 refine zR 1 rfl (zN (zU (zQ (zG (zR 1 rfl ?_)))))
 refine yL (Rd.add (Rd.blk 0 rfl) _) ?_
 refine zR 1 rfl ?_
 refine yL (Rd.add (Rd.blk 0 rfl) _) ?_
 refine zR 1 rfl ?_
 refine yS ?_
 refine WG.y rfl rfl qD (Yl.index tab_ok rfl rfl rfl rfl rfl rfl (fun _ => rfl) qA qH) ?_
 refine yR ?_
 refine zR 2 rfl (zN (zU (zT ?_)))
 refine sE (E := E) ?_
 refine WE.retF tab_ok [_] rfl ⟨rfl, trivial⟩ (RLe.refl _) ?_
 exact ⟨by rw [hl]; rfl, rfl⟩

theorem CValidG_V {R : Ro} {fa : Option Addr} {fc : Nat} {c : Cv} (ha : RS R 1 encI fa c.vals) (hl : c.vals.length ≤ 100000) : FnV Tryz.prog 66 [.agg #[.slice fa c.vals.length fc, .int .i64 c.per, .int .i64 c.inc]] R (.bool (validB c)) := by
 refine Fn.toV (fun w0 E => ?_)
 refine fE 85 Tryz.func66 ?_
 refine zQ (zG ?_)
 refine zO fun b1 => ?_
 refine zR 1 rfl (zN (zU (zQ (zG (zR 1 rfl ?_)))))
 refine yL (Rd.add (Rd.blk 0 rfl) _) ?_
 refine zR 2 rfl (zN (zU (zQ (zQ (zG (zR 3 rfl ?_))))))
 refine yP ?_
 refine yP ?_
 refine yO ?_
 refine zR 1 rfl ?_
 refine yP ?_
 refine yG (Rd.addC (Rd.blkC 0 rfl) _) ?_
 refine yP ?_
 refine yO ?_
 refine zR 1 rfl ?_
 refine yP ?_
 refine yG (Rd.addC (Rd.blkC 0 rfl) _) ?_
 refine yP ?_
 refine yO ?_
 refine zR 1 rfl ?_
 refine yP ?_
 refine yG (Rd.addC (Rd.blkC 0 rfl) _) ?_
 refine yP ?_
 refine yP ?_
 refine yO ?_
 refine zR 1 rfl ?_
 refine yP ?_
 refine yG (Rd.addC (Rd.blkC 0 rfl) _) ?_
 refine yP ?_
 refine yO ?_
 refine zR 1 rfl ?_
 refine yP ?_
 refine yG (Rd.addC (Rd.blkC 0 rfl) _) ?_
 refine yP ?_
 refine yO ?_
 refine zN (zU ?_)
 refine W.cond rfl (fun hc0 => ?_) (fun hc0 => ?_)
 ·try simp only [zk] at hc0
  have hno : validB c = false := validB_false (fun h => by obtain ⟨⟨a1, a2, a3, a4, a5, a6, a7⟩, _⟩ := h; unfold MAXV at a7; omega)
  refine zQ (zG (zR 1 rfl (zN (zU (zT (wt ?_))))))
  refine sE (E := E) ?_
  refine WE.retF tab_ok [_] rfl ⟨rfl, trivial⟩ (RLe.refl _) ?_
  exact ⟨by rw [hno]; rfl, rfl⟩
 ·try simp only [zk] at hc0
  have hall : 1 ≤ c.vals.length ∧ c.vals.length ≤ 400 ∧ 1 ≤ c.per ∧ c.per ≤ 120 ∧ c.per ≤ c.vals.length ∧ 0 ≤ c.inc ∧ c.inc ≤ MAXV := by unfold MAXV; omega
  refine zK (zU (zQ (zG (zR 1 rfl (zN (zU (zQ (zQ (zG (zR 1 rfl ?_))))))))))
  refine yL (Rd.add (Rd.blk 0 rfl) _) ?_
  refine zR 2 rfl (zN (zU (zB ?_)))
  refine W.loopK (β := Nat) (fun t => t ≤ c.vals.length ∧ ∀ i, i < t → (nth c.vals i = INF ∨ (0 ≤ nth c.vals i ∧ nth c.vals i ≤ MAXV)) ∧ (i = 0 ∨ nth c.vals (i - 1) ≤ nth c.vals i)) (fun t => [(4, true, .int .i64 (lastV c.vals t)), (45, true, .int .i64 (t : Int))]) [1, 3, 43, 44] [_, _, _, _] [] _ rfl (fun t => []) (fun t => c.vals.length - t) (0) (⟨Nat.zero_le _, fun i hi => by omega⟩) ⟨rfl, rfl, rfl, rfl, rfl, rfl, rfl⟩ qS ?_
  intro t hst
  dsimp only [zipE, setAll, List.cons_append, List.nil_append, List.set_cons_zero, List.set_cons_succ] at hst ⊢
  have hlast : 0 ≤ lastV c.vals t ∧ (lastV c.vals t = INF ∨ lastV c.vals t ≤ MAXV) := by
   unfold lastV
   by_cases h : t = 0
   ·rw [if_pos h]; exact ⟨Int.le_refl _, .inr (by decide)⟩
   ·rw [if_neg h]
    have := (hst.2 (t - 1) (by omega)).1
    unfold INF MAXV at this ⊢
    omega
  refine zQ (zG (zR 1 rfl (zN (zU (zQ ?_)))))
  refine W.condD rfl (fun hc1 => ?_) (fun hc1 => ?_)
  ·try dsimp only at hc1
   have htl : t < c.vals.length := by omega
   refine zK (zU (zQ (zB (zQ (zG ?_)))))
   refine WG.y rfl rfl qD (Yl.indexN tab_ok rfl rfl rfl rfl rfl rfl (fun _ => rfl) qN qH) ?_
   refine yR ?_
   refine zR 1 rfl (zN (zU (zQ (zQ (zG (zR 4 rfl ?_))))))
   refine yP ?_
   refine yP ?_
   refine yP ?_
   refine yP ?_
   refine yP ?_
   refine yN ?_
   refine yO ?_
   refine zN (zU ?_)
   refine W.cond rfl (fun hc2 => ?_) (fun hc2 => ?_)
   ·try simp only [zk] at hc2
    have hno : validB c = false := validB_false (fun h => by
     have h2 := h.2.1 t htl
     unfold lastV at hc2
     unfold INF MAXV at h2
     rcases hc2 with x | x
     ·split at x
      ·omega
      ·have := h2.2.resolve_left (by omega)
       omega
     ·omega)
    refine zQ (zG (zR 1 rfl (zN (zU (zT (wt (wb (wt (wt (wb (wt ?_)))))))))))
    refine sE (E := E) ?_
    refine WE.retF tab_ok [_] rfl ⟨rfl, trivial⟩ (RLe.refl _) ?_
    exact ⟨by rw [hno]; rfl, rfl⟩
   ·try simp only [zk] at hc2
    have hy : (nth c.vals t = INF ∨ (0 ≤ nth c.vals t ∧ nth c.vals t ≤ MAXV)) ∧ (t = 0 ∨ nth c.vals (t - 1) ≤ nth c.vals t) := by
     unfold INF MAXV
     have hle : lastV c.vals t ≤ nth c.vals t := by omega
     refine ⟨by omega, ?_⟩
     unfold lastV at hle
     by_cases h : t = 0
     ·exact .inl h
     ·rw [if_neg h] at hle; exact .inr hle
    refine zK (zU (zG (zR 2 rfl (zN (zL (zU (zG ?_)))))))
    refine yA ?_
    refine zR 1 rfl (zN ?_)
    refine WE.again (t + 1) (⟨by omega, fun i hi => by
     by_cases e : i = t
     ·subst e; exact hy
     ·exact hst.2 i (by omega)⟩) (by (try dsimp only); omega) ⟨vint (lastV_succ _ _), rfl, rfl, rfl, rfl, rfl, rfl⟩ (RLe.refl _) qS
  ·try dsimp only at hc1
   obtain rfl : t = c.vals.length := by omega
   obtain ⟨P, hP⟩ := Int.eq_ofNat_of_zero_le (show 0 ≤ c.per by omega)
   have hlv : lastV c.vals c.vals.length = nth c.vals (c.vals.length - 1) := if_neg (by omega)
   have e3 : ((c.vals.length : Int) - c.per).toNat = c.vals.length - c.per.toNat := by omega
   refine zX ?_
   refine wx (wx (zY (zU (zQ (zQ (zG (zR 2 rfl (zN (zU ?_)))))))))
   refine W.condE rfl (fun hc3 => ?_) (fun hc3 => ?_)
   ·try dsimp only at hc3
    have hif : (if nth c.vals (c.vals.length - 1) = INF then c.per = 1 ∧ c.inc = 0 else nth c.vals (c.vals.length - 1) ≤ nth c.vals (c.vals.length - c.per.toNat) + c.inc) ↔ (c.per = 1 ∧ c.inc = 0) := by rw [if_pos (by rw [← hlv]; exact hc3)]
    refine zQ (zG (zR 1 rfl ?_))
    refine yL (Rd.add (Rd.blk 0 rfl) _) ?_
    refine zR 2 rfl ?_
    refine yP ?_
    refine yG (Rd.addC (Rd.blkC 0 rfl) _) ?_
    refine yP ?_
    refine yN ?_
    refine zR 1 rfl (zN (zU (zT (wt ?_))))
    refine sE (E := E) ?_
    refine WE.retF tab_ok [_] rfl ⟨rfl, trivial⟩ (RLe.refl _) ?_
    refine ⟨congrArg Value.bool ?_, rfl⟩
    rw [Bool.eq_iff_iff, validB_iff, hif]
    simp only [Bool.and_eq_true, beq_iff_eq]
    exact ⟨fun h => ⟨hall, fun j hj => hst.2 j hj, h⟩, fun h => h.2.2⟩
   ·try dsimp only at hc3
    have hif : (if nth c.vals (c.vals.length - 1) = INF then c.per = 1 ∧ c.inc = 0 else nth c.vals (c.vals.length - 1) ≤ nth c.vals (c.vals.length - c.per.toNat) + c.inc) ↔ (nth c.vals (c.vals.length - 1) ≤ nth c.vals (c.vals.length - c.per.toNat) + c.inc) := by rw [if_neg (by rw [← hlv]; exact hc3)]
    have hx2 := (hst.2 (c.vals.length - c.per.toNat) (by omega)).1
    rw [← e3] at hx2
    unfold INF MAXV at hx2 hall
    refine zK (zU (zQ ?_))
    refine W.regionQ _ mixed qK ?_
    refine zR 1 rfl ?_
    refine yL (Rd.add (Rd.blk 0 rfl) _) ?_
    refine zR 2 rfl ?_
    refine yL (Rd.add (Rd.blk 0 rfl) _) ?_
    refine yS ?_
    refine WG.y rfl rfl qD (Yl.index tab_ok rfl rfl rfl rfl rfl rfl (fun _ => rfl) qA qH) ?_
    refine yR ?_
    refine zR 1 rfl ?_
    refine yL (Rd.add (Rd.blk 0 rfl) _) ?_
    refine yA ?_
    refine zR 3 rfl (zN (zU (zT ?_)))
    refine sE (E := E) ?_
    refine WE.retF tab_ok [_] rfl ⟨rfl, trivial⟩ (RLe.refl _) ?_
    refine ⟨congrArg Value.bool ?_, rfl⟩
    rw [Bool.eq_iff_iff, validB_iff, hif, e3, hlv]
    simp only [decide_eq_true_eq]
    exact ⟨fun h => ⟨by unfold MAXV; omega, fun j hj => hst.2 j hj, by omega⟩, fun h => by have := h.2.2; omega⟩

end Go.Proofs.YtmidibkljoaoiaaGreatDoor

/- A walk begins anew where nothing is owned: all that exists is read only and lies below; string(b) of bytes of one's own. No condition. -/
namespace Go.Proofs.YtmidibkljoaoiaaGreatDoor.K
open Go Go.RowKit
section
variable {P : Program} {n : Nat} {env : Env} {w0 w1 : World} {R R1 : Ro} {E : List Ent} {c : Code} {Q : Exit → Act → World → Prop} {e : Exit}
theorem W.rebase (h : ∀ w1, Mem w0 w1 R [] → RBelow w1 R → W P c Q n env w1 R []) : W P c Q n env w0 R [] := fun a w hk hm =>
 h w hm (fun _ _ hb => hm.ro_lt hb) a w hk ⟨Below.refl _ w, hm.ro, fun e he => (by cases he), fun e he => (by cases he), List.Pairwise.nil⟩
theorem WE.rebase (hb : Mem w0 w1 R1 []) (h : WE Q e n env w0 R1 []) : WE Q e n env w1 R E := fun a w hk hm => h a w hk (hb.belowAll hm.below)
end
end Go.Proofs.YtmidibkljoaoiaaGreatDoor.K

/- What is written: numbers. No condition. -/
set_option maxRecDepth 4000
set_option linter.unusedSimpArgs false
set_option linter.unusedVariables false
namespace Go.Proofs.YtmidibkljoaoiaaGreatDoor
open Go Go.RowKit Go.Proofs.YtmidibkljoaoiaaGreatDoor.K Go.Proofs.YtmidibkljoaoiaaGreatDoor.M

theorem tab_below {w0 w : World} {R : Ro} {E : List Ent} (h : Mem w0 w R E) (hb : RBelow w0 R) {b : Nat} {name : String} {k : IntKind} {zs : List Int} (hg : Tryz.prog.globalNamed name = some b) (hr : R b = some (zs.map fun z => Value.int k z)) : Lib.TabBelow Tryz.prog w0.heap.size w name k zs := by
 intro w' hw
 obtain ⟨T, fz, h1⟩ := h.ro b _ hr
 have h2 := hw.block b (hb _ _ hr)
 rw [h1] at h2
 unfold Lib.TabIs World.var?
 simp [hg, h2]
theorem AppInt_C {R : Ro} {a : Option Addr} {cap : Nat} {l : List UInt8} {i : Int} (hG : GlobE R) (w0 : World) (hb : RBelow w0 R) (hi : InR i) (hl : l.length ≤ 1000000) :
  K.Fn Tryz.prog 85 [.slice a l.length cap, .int .i64 i, .int .i64 10] w0 R [.sl 5 1 a cap ((l).map encY)] (fun r R' E' => ∃ (a' : Option Addr) (cap' : Nat), r = .slice a' (l ++ Lib.itoa i).length cap' ∧ R = R' ∧ E' = [.sl 5 1 a' cap' ((l ++ Lib.itoa i).map encY)]) := by
 intro w hm
 obtain ⟨_, _, h2⟩ := hm.own _ (List.mem_singleton.2 rfl)
 rw [List.length_map, encY_flat] at h2
 refine (sh_strconv_AppendInt_10 w0.heap.size l.length i hi.1 hi.2 _ _ w h2 hm.below.size qO (tab_below hm hb qK hG.pow)).mono ?_
 rintro e w' ⟨v', rfl, ho, hbl, _⟩
 have hll : (l ++ Lib.itoa i).length = l.length + (Lib.itoa i).length := List.length_append
 have hcells : (l.map fun c => Value.int .u8 c.toNat) ++ Lib.byteCells (Lib.itoa i) = ((l ++ Lib.itoa i).map encY).flatten := by
  rw [encY_flat, List.map_append]; rfl
 rw [hcells, ← hll] at ho
 have hmem : ∀ (a' : Option Addr) (cap' : Nat), v' = .slice a' (l ++ Lib.itoa i).length cap' → (∀ x, a' = some x → w0.heap.size ≤ x.block) → Mem w0 w' R [.sl 5 1 a' cap' ((l ++ Lib.itoa i).map encY)] := fun a' cap' hv hge => by
  refine ⟨hm.below.trans hbl, fun b cs hr => ?_, fun e he => ?_, fun e he b hbk => ?_, List.pairwise_singleton _ _⟩
  ·obtain ⟨T, fz, h1⟩ := hm.ro b cs hr
   exact ⟨T, fz, by rw [hbl.block b (hb _ _ hr)]; exact h1⟩
  ·obtain rfl := List.mem_singleton.1 he
   refine ⟨fun r hr => by obtain ⟨c, _, rfl⟩ := List.mem_map.1 hr; rfl, Nat.one_pos, ?_⟩
   rw [List.length_map, ← hv]
   exact ho
  ·obtain rfl := List.mem_singleton.1 he
   cases a' with
   | none => cases hbk
   | some x =>
    have hx := hge x rfl
    have : x.block = b := by simpa [Ent.block] using hbk
    cases hr : R b with
    | none => rfl
    | some cs => have := hb _ _ hr; omega
 have ho2 := ho.2
 rcases ho2 with ⟨rfl, hn⟩ | ⟨g, c2, cur, rfl, hg, _⟩
 ·refine ⟨_, R, _, rfl, RLe.refl _, hmem none 0 (by rw [hn]) (fun x h => by cases h), none, 0, by rw [hn], rfl, rfl⟩
 ·refine ⟨_, R, _, rfl, RLe.refl _, hmem (some ⟨g, 0, none⟩) c2 rfl (fun x h => by cases h; exact hg), some ⟨g, 0, none⟩, c2, rfl, rfl, rfl⟩

theorem Num03_C {R : Ro} {a : Option Addr} {cap : Nat} {l : List UInt8} {v : Int} (hG : GlobE R) (w0 : World) (hb : RBelow w0 R) (hv : InR v) (hl : l.length ≤ 1000000) : K.Fn Tryz.prog 67 [.slice a l.length cap, .int .i64 v] w0 R [.sl 5 1 a cap ((l).map encY)] (fun r R' E' => ∃ (a' : Option Addr) (cap' : Nat), r = .slice a' (l ++ wordV v).length cap' ∧ R = R' ∧ E' = [.sl 5 1 a' cap' ((l ++ wordV v).map encY)]) := by
 refine fE 12 Tryz.func67 ?_
 refine zQ (zG (zR 1 rfl (zN (zU (zQ (zQ (zG (zR 2 rfl (zN (zU ?_))))))))))
 refine W.condE rfl (fun hc0 => ?_) (fun hc0 => ?_)
 ·try dsimp only at hc0
  have e : wordV v = wInf := if_pos hc0
  refine zQ (zG (zR 1 rfl ?_))
  refine WL.ef rfl rfl qD (Ef.appendStr (l := wInf) 0 tab_ok rfl rfl rfl rfl rfl rfl qK rfl rfl rfl rfl rfl rfl (by show _ + 3 ≤ _; omega) (fun a8 c8 => ?_))
  refine zR 1 rfl (zN (zU (zT (wt ?_))))
  refine WE.retF tab_ok [_] rfl ⟨rfl, trivial⟩ (RLe.refl _) ?_
  exact ⟨a8, c8, by rw [e] <;> rfl, rfl, by rw [e] <;> rfl⟩
 ·try dsimp only at hc0
  have e : wordV v = Lib.itoa v := if_neg hc0
  refine zK (zU (zQ (zG (zR 2 rfl ?_))))
  refine WL.call en85 rfl rfl qD (CallOp.mkT rfl rfl rfl rfl) (AppInt_C hG w0 hb hv hl) ?_
  rintro _ _ _ - ⟨a8, c8, rfl, rfl, rfl⟩
  refine zR 1 rfl (zN (zU (zT ?_)))
  refine WE.retF tab_ok [_] rfl ⟨rfl, trivial⟩ (RLe.refl _) ?_
  exact ⟨a8, c8, by rw [e] <;> rfl, rfl, by rw [e] <;> rfl⟩



theorem fmtVals_snoc : ∀ (xs : List Int) (v : Int), fmtVals (xs ++ [v]) = (fmtVals xs ++ wordV v) ++ [32]
 | [], v => by simp [fmtVals]
 | x :: xs, v => by rw [List.cons_append, fmtVals, fmtVals, fmtVals_snoc xs v]; simp
theorem wordV_len {v : Int} (h : v = INF ∨ (0 ≤ v ∧ v ≤ 1073741824)) : (wordV v).length ≤ 11 := by
 unfold wordV
 split
 ·decide
 ·rename_i e; have := h.resolve_left e; exact itoa_len (by omega)
theorem fmtVals_len : ∀ (xs : List Int), (∀ v ∈ xs, v = INF ∨ (0 ≤ v ∧ v ≤ 1073741824)) → (fmtVals xs).length ≤ 12 * xs.length
 | [], _ => Nat.le_refl 0
 | x :: xs, h => by
  have h1 := wordV_len (h x (by simp))
  have h2 := fmtVals_len xs (fun v hv => h v (by simp [hv]))
  rw [fmtVals, List.length_append, List.length_cons, List.length_cons]
  omega
theorem valid_vals {c : Cv} (hv : validB c = true) : ∀ v ∈ c.vals, v = INF ∨ (0 ≤ v ∧ v ≤ 1073741824) := fun v hv' => by
 obtain ⟨i, hi, rfl⟩ := List.getElem_of_mem hv'
 have := valid_each hv i hi
 rw [nth_eq hi] at this
 exact this
theorem fmtC_len {c : Cv} (hv : validB c = true) : 0 < (fmtC c).length ∧ (fmtC c).length ≤ 5000 := by
 obtain ⟨_, _, h3, h4, h5, h6, h7, h8⟩ := valid_range hv
 have h1 := fmtVals_len _ (valid_vals hv)
 have h2 := itoa_len (n := c.per) (by omega)
 have h9 := itoa_len (n := c.inc) (by omega)
 unfold fmtC
 simp only [List.length_append, List.length_cons, show wPer.length = 3 from rfl, show wInc.length = 3 from rfl]
 omega



theorem CValidX_V {R : Ro} {fa : Option Addr} {fc : Nat} {c : Cv} (ha : RS R 1 encI fa c.vals) : FnV Tryz.prog 66 [.agg #[.slice fa c.vals.length fc, .int .i64 c.per, .int .i64 c.inc]] R (.bool (validB c)) := by
 refine Fn.toV (fun w0 E => ?_)
 refine fE 85 Tryz.func66 ?_
 refine zQ (zG ?_)
 refine zO fun b1 => ?_
 refine zR 1 rfl (zN (zU (zQ (zG (zR 1 rfl ?_)))))
 refine yL (Rd.add (Rd.blk 0 rfl) _) ?_
 refine zR 2 rfl (zN (zU (zQ (zQ (zG (zR 3 rfl ?_))))))
 refine yP ?_
 refine yP ?_
 refine yO ?_
 refine zR 1 rfl ?_
 refine yP ?_
 refine yG (Rd.addC (Rd.blkC 0 rfl) _) ?_
 refine yP ?_
 refine yO ?_
 refine zR 1 rfl ?_
 refine yP ?_
 refine yG (Rd.addC (Rd.blkC 0 rfl) _) ?_
 refine yP ?_
 refine yO ?_
 refine zR 1 rfl ?_
 refine yP ?_
 refine yG (Rd.addC (Rd.blkC 0 rfl) _) ?_
 refine yP ?_
 refine yP ?_
 refine yO ?_
 refine zR 1 rfl ?_
 refine yP ?_
 refine yG (Rd.addC (Rd.blkC 0 rfl) _) ?_
 refine yP ?_
 refine yO ?_
 refine zR 1 rfl ?_
 refine yP ?_
 refine yG (Rd.addC (Rd.blkC 0 rfl) _) ?_
 refine yP ?_
 refine yO ?_
 refine zN (zU ?_)
 refine W.cond rfl (fun hc0 => ?_) (fun hc0 => ?_)
 ·try simp only [zk] at hc0
  have hno : validB c = false := validB_false (fun h => by obtain ⟨⟨a1, a2, a3, a4, a5, a6, a7⟩, _⟩ := h; unfold MAXV at a7; omega)
  refine zQ (zG (zR 1 rfl (zN (zU (zT (wt ?_))))))
  refine sE (E := E) ?_
  refine WE.retF tab_ok [_] rfl ⟨rfl, trivial⟩ (RLe.refl _) ?_
  exact ⟨by rw [hno]; rfl, rfl⟩
 ·try simp only [zk] at hc0
  have hall : 1 ≤ c.vals.length ∧ c.vals.length ≤ 400 ∧ 1 ≤ c.per ∧ c.per ≤ 120 ∧ c.per ≤ c.vals.length ∧ 0 ≤ c.inc ∧ c.inc ≤ MAXV := by unfold MAXV; omega
  refine zK (zU (zQ (zG (zR 1 rfl (zN (zU (zQ (zQ (zG (zR 1 rfl ?_))))))))))
  refine yL (Rd.add (Rd.blk 0 rfl) _) ?_
  refine zR 2 rfl (zN (zU (zB ?_)))
  refine W.loopK (β := Nat) (fun t => t ≤ c.vals.length ∧ ∀ i, i < t → (nth c.vals i = INF ∨ (0 ≤ nth c.vals i ∧ nth c.vals i ≤ MAXV)) ∧ (i = 0 ∨ nth c.vals (i - 1) ≤ nth c.vals i)) (fun t => [(4, true, .int .i64 (lastV c.vals t)), (45, true, .int .i64 (t : Int))]) [1, 3, 43, 44] [_, _, _, _] [] _ rfl (fun t => []) (fun t => c.vals.length - t) (0) (⟨Nat.zero_le _, fun i hi => by omega⟩) ⟨rfl, rfl, rfl, rfl, rfl, rfl, rfl⟩ qS ?_
  intro t hst
  dsimp only [zipE, setAll, List.cons_append, List.nil_append, List.set_cons_zero, List.set_cons_succ] at hst ⊢
  have hlast : 0 ≤ lastV c.vals t ∧ (lastV c.vals t = INF ∨ lastV c.vals t ≤ MAXV) := by
   unfold lastV
   by_cases h : t = 0
   ·rw [if_pos h]; exact ⟨Int.le_refl _, .inr (by decide)⟩
   ·rw [if_neg h]
    have := (hst.2 (t - 1) (by omega)).1
    unfold INF MAXV at this ⊢
    omega
  refine zQ (zG (zR 1 rfl (zN (zU (zQ ?_)))))
  refine W.condD rfl (fun hc1 => ?_) (fun hc1 => ?_)
  ·try dsimp only at hc1
   have htl : t < c.vals.length := by omega
   refine zK (zU (zQ (zB (zQ (zG ?_)))))
   refine WG.y rfl rfl qD (Yl.indexN tab_ok rfl rfl rfl rfl rfl rfl (fun _ => rfl) qN qH) ?_
   refine yR ?_
   refine zR 1 rfl (zN (zU (zQ (zQ (zG (zR 4 rfl ?_))))))
   refine yP ?_
   refine yP ?_
   refine yP ?_
   refine yP ?_
   refine yP ?_
   refine yN ?_
   refine yO ?_
   refine zN (zU ?_)
   refine W.cond rfl (fun hc2 => ?_) (fun hc2 => ?_)
   ·try simp only [zk] at hc2
    have hno : validB c = false := validB_false (fun h => by
     have h2 := h.2.1 t htl
     unfold lastV at hc2
     unfold INF MAXV at h2
     rcases hc2 with x | x
     ·split at x
      ·omega
      ·have := h2.2.resolve_left (by omega)
       omega
     ·omega)
    refine zQ (zG (zR 1 rfl (zN (zU (zT (wt (wb (wt (wt (wb (wt ?_)))))))))))
    refine sE (E := E) ?_
    refine WE.retF tab_ok [_] rfl ⟨rfl, trivial⟩ (RLe.refl _) ?_
    exact ⟨by rw [hno]; rfl, rfl⟩
   ·try simp only [zk] at hc2
    have hy : (nth c.vals t = INF ∨ (0 ≤ nth c.vals t ∧ nth c.vals t ≤ MAXV)) ∧ (t = 0 ∨ nth c.vals (t - 1) ≤ nth c.vals t) := by
     unfold INF MAXV
     have hle : lastV c.vals t ≤ nth c.vals t := by omega
     refine ⟨by omega, ?_⟩
     unfold lastV at hle
     by_cases h : t = 0
     ·exact .inl h
     ·rw [if_neg h] at hle; exact .inr hle
    refine zK (zU (zG (zR 2 rfl (zN (zL (zU (zG ?_)))))))
    refine yA ?_
    refine zR 1 rfl (zN ?_)
    refine WE.again (t + 1) (⟨by omega, fun i hi => by
     by_cases e : i = t
     ·subst e; exact hy
     ·exact hst.2 i (by omega)⟩) (by (try dsimp only); omega) ⟨vint (lastV_succ _ _), rfl, rfl, rfl, rfl, rfl, rfl⟩ (RLe.refl _) qS
  ·try dsimp only at hc1
   obtain rfl : t = c.vals.length := by omega
   obtain ⟨P, hP⟩ := Int.eq_ofNat_of_zero_le (show 0 ≤ c.per by omega)
   have hlv : lastV c.vals c.vals.length = nth c.vals (c.vals.length - 1) := if_neg (by omega)
   have e3 : ((c.vals.length : Int) - c.per).toNat = c.vals.length - c.per.toNat := by omega
   refine zX ?_
   refine wx (wx (zY (zU (zQ (zQ (zG (zR 2 rfl (zN (zU ?_)))))))))
   refine W.condE rfl (fun hc3 => ?_) (fun hc3 => ?_)
   ·try dsimp only at hc3
    have hif : (if nth c.vals (c.vals.length - 1) = INF then c.per = 1 ∧ c.inc = 0 else nth c.vals (c.vals.length - 1) ≤ nth c.vals (c.vals.length - c.per.toNat) + c.inc) ↔ (c.per = 1 ∧ c.inc = 0) := by rw [if_pos (by rw [← hlv]; exact hc3)]
    refine zQ (zG (zR 1 rfl ?_))
    refine yL (Rd.add (Rd.blk 0 rfl) _) ?_
    refine zR 2 rfl ?_
    refine yP ?_
    refine yG (Rd.addC (Rd.blkC 0 rfl) _) ?_
    refine yP ?_
    refine yN ?_
    refine zR 1 rfl (zN (zU (zT (wt ?_))))
    refine sE (E := E) ?_
    refine WE.retF tab_ok [_] rfl ⟨rfl, trivial⟩ (RLe.refl _) ?_
    refine ⟨congrArg Value.bool ?_, rfl⟩
    rw [Bool.eq_iff_iff, validB_iff, hif]
    simp only [Bool.and_eq_true, beq_iff_eq]
    exact ⟨fun h => ⟨hall, fun j hj => hst.2 j hj, h⟩, fun h => h.2.2⟩
   ·try dsimp only at hc3
    have hif : (if nth c.vals (c.vals.length - 1) = INF then c.per = 1 ∧ c.inc = 0 else nth c.vals (c.vals.length - 1) ≤ nth c.vals (c.vals.length - c.per.toNat) + c.inc) ↔ (nth c.vals (c.vals.length - 1) ≤ nth c.vals (c.vals.length - c.per.toNat) + c.inc) := by rw [if_neg (by rw [← hlv]; exact hc3)]
    have hx2 := (hst.2 (c.vals.length - c.per.toNat) (by omega)).1
    rw [← e3] at hx2
    unfold INF MAXV at hx2 hall
    refine zK (zU (zQ ?_))
    refine W.regionQ _ mixed qK ?_
    refine zR 1 rfl ?_
    refine yL (Rd.add (Rd.blk 0 rfl) _) ?_
    refine zR 2 rfl ?_
    refine yL (Rd.add (Rd.blk 0 rfl) _) ?_
    refine yS ?_
    refine WG.y rfl rfl qD (Yl.index tab_ok rfl rfl rfl rfl rfl rfl (fun _ => rfl) qA qH) ?_
    refine yR ?_
    refine zR 1 rfl ?_
    refine yL (Rd.add (Rd.blk 0 rfl) _) ?_
    refine yA ?_
    refine zR 3 rfl (zN (zU (zT ?_)))
    refine sE (E := E) ?_
    refine WE.retF tab_ok [_] rfl ⟨rfl, trivial⟩ (RLe.refl _) ?_
    refine ⟨congrArg Value.bool ?_, rfl⟩
    rw [Bool.eq_iff_iff, validB_iff, hif, e3, hlv]
    simp only [decide_eq_true_eq]
    exact ⟨fun h => ⟨by unfold MAXV; omega, fun j hj => hst.2 j hj, by omega⟩, fun h => by have := h.2.2; omega⟩

set_option maxHeartbeats 1000000 in
theorem Fmt03X_V {R : Ro} {fa : Option Addr} {fc : Nat} {c : Cv} (hG : GlobE R) (ha : RS R 1 encI fa c.vals) : FnV Tryz.prog 36 [.agg #[.slice fa c.vals.length fc, .int .i64 c.per, .int .i64 c.inc]] R (.tuple #[.string (str (formatR c).1), .int .i64 (formatR c).2]) := by
 refine FnV.ofOwn (fun w0 hb => ?_)
 refine fE 38 Tryz.func36 ?_
 refine zQ (zG ?_)
 refine zO fun b1 => ?_
 refine zR 2 rfl (zN (zU (zQ (zQ (zG ?_)))))
 refine yL (Rd.blk 0 rfl) ?_
 refine WG.callV en66 rfl rfl qD (CallOp.mk' rfl rfl rfl rfl) (fun _ => rfl) (fun hg => CValidX_V ha) ?_
 refine zR 1 rfl (zN (zU ?_))
 refine W.cond rfl (fun hc0 => ?_) (fun hc0 => ?_)
 ·try simp only [zk] at hc0
  have hf : formatR c = ([], 1) := if_pos (by simpa using hc0)
  refine zQ (zG (zR 2 rfl (zN (zU (zT (wt ?_))))))
  refine WE.retF tab_ok [_, _] rfl ⟨rfl, rfl, trivial⟩ (by first | exact RLe.refl _ | exact hR1) ?_
  rw [hf]; rfl
 ·try simp only [zk] at hc0
  have hv : validB c = true := by simpa using hc0
  refine zK (zU ?_)
  refine W.freezeBlk 0 rfl ?_
  intro R1 hR1 hb1
  refine W.rebase (fun w1 hm1 hb2 => ?_)
  refine W.nil 5 1 qD ?_
  have hG := hG.mono hR1
  have ha := ha.mono hR1
  have hvrg := valid_range hv
  have hfcl := fmtC_len hv
  refine zQ (zG (zR 1 rfl (zN (zU (zQ (zQ (zG (zR 1 rfl ?_))))))))
  refine' WG.y rfl rfl qD (Yl.load1 tab_ok rfl rfl rfl (fun _ => rfl) ?r2 rfl ?h2) ?_
  case r2 => apply Rd.add; (exact Rd.ro qU)
  case h2 => rfl
  refine zR 2 rfl (zN (zU (zB ?_)))
  refine W.loopK (β := Nat × Option Addr × Nat) (fun (j, a, cp) => j ≤ c.vals.length) (fun (j, a, cp) => [(4, true, .slice a (fmtVals (c.vals.take j)).length cp), (13, true, .int .i64 (j : Int))]) [1, 11, 12] [_, _, _] [] _ rfl (fun (j, a, cp) => [(0, .sl 5 1 a cp ((fmtVals (c.vals.take j)).map encY))]) (fun (j, a, cp) => c.vals.length - j) ((0, none, 0)) (Nat.zero_le _) ⟨rfl, rfl, rfl, rfl, rfl, rfl⟩ qS ?_
  intro zz hst
  obtain ⟨j, a, cp⟩ := zz
  dsimp only [zipE, setAll, List.cons_append, List.nil_append, List.set_cons_zero, List.set_cons_succ] at hst ⊢
  
  refine zQ (zG (zR 1 rfl (zN (zU (zQ ?_)))))
  refine W.condD rfl (fun hc1 => ?_) (fun hc1 => ?_)
  ·try dsimp only at hc1
   have hjl : j < c.vals.length := by omega
   have hwl := wordV_len (valid_vals hv _ (nth_mem hjl))
   have hfl := fmtVals_len (c.vals.take j) (fun v h => valid_vals hv v (List.mem_of_mem_take h))
   rw [List.length_take] at hfl
   have hvr : InR (nth c.vals j) := by
    have := hvrg.1 _ (nth_mem hjl)
    constructor <;> omega
   have hsn : fmtVals (c.vals.take (j + 1)) = (fmtVals (c.vals.take j) ++ wordV (nth c.vals j)) ++ [32] := by
    rw [← fmtVals_snoc, nth_eq hjl, List.take_succ_eq_append_getElem hjl]
   refine zK (zU (zQ (zB (zQ (zG ?_)))))
   refine WG.y rfl rfl qD (Yl.indexN tab_ok rfl rfl rfl rfl rfl rfl (fun _ => rfl) qN qH) ?_
   refine yR ?_
   refine zR 1 rfl (zN (zU (zG (zR 2 rfl ?_))))
   refine WL.call en67 rfl rfl qD (CallOp.mkT rfl rfl rfl rfl) (Num03_C hG w1 hb2 hvr qO) ?_
   rintro _ _ _ - ⟨a8, c8, rfl, rfl, rfl⟩
   refine WL.ef rfl rfl qD (Ef.buildSliceD (enc := encY) (parts := [.const (.int .u8 32)]) [(32 : UInt8)] tab_ok rfl rfl rfl rfl rfl rfl rfl rfl qD qD (fun a20 => ?_))
   refine WL.ef rfl rfl (by decide) (Ef.appendD (enc := encY) 1 0 tab_ok rfl rfl rfl rfl rfl rfl rfl rfl rfl rfl rfl (fun _ _ => rfl) (by simp only [List.length_append, List.length_cons, List.length_nil]; omega) (by simp only [List.length_append, List.length_cons, List.length_nil]; omega) (fun a21 c21 ha21 => ?_))
   refine zR 1 rfl ?_
   rw [← hsn]
   refine zN (zL (zU (zG ?_)))
   refine yA ?_
   refine zR 1 rfl (zN ?_)
   refine WE.again ((j + 1, a21, c21)) (by (try dsimp only); omega) (by (try dsimp only); omega) ⟨rfl, rfl, rfl, rfl, rfl, rfl⟩ (RLe.refl _) qS
  ·try dsimp only at hc1
   obtain rfl : j = c.vals.length := by omega
   rw [List.take_length]
   have hfl := fmtVals_len c.vals (valid_vals hv)
   have hwp := wordV_len (v := c.per) (.inr (by omega))
   refine zX ?_
   refine wx (wx (zY (zU (zQ ?_))))
   refine W.regionH _ (ES := []) mixed ?_
   refine tP 0 ?_
   refine tP 2 ?_
   refine' WA.take 3 rfl qK qK qK rfl rfl qD (Yl.load1 tab_ok rfl rfl rfl (fun _ => rfl) ?r4 rfl ?h4) qS qR ?_
   case r4 => apply Rd.add; (exact Rd.ro qU)
   case h4 => rfl
   refine WA.eff 1 rfl qK rfl rfl qD (Ef.appendStr (l := [112, 101, 114, 32]) 0 tab_ok rfl rfl rfl rfl rfl rfl qK rfl rfl rfl rfl rfl rfl (by show _ + 4 ≤ _; omega) (fun a8 c8 => ?_))
   refine ⟨qR, qS, ?_⟩
   refine WA.callG 4 rfl (by kernel_rfl) en67 rfl (by first | rfl | decide) rfl (by decide) (CallOp.mkT rfl rfl rfl rfl) (Num03_C hG w1 hb2 (by constructor <;> omega) (by (try simp only [List.length_append, List.length_cons, List.length_nil]); omega)) ?_
   rintro _ _ _ - ⟨a8, c8, rfl, rfl, rfl⟩
   refine ⟨RLe.refl _, List.nil_sublist _, ?_⟩
   refine WA.eff 5 rfl (by kernel_rfl) rfl rfl (by decide) (Ef.appendStr (l := [32, 105, 110, 99, 32]) 0 tab_ok rfl rfl rfl rfl rfl rfl (by kernel_rfl) rfl rfl rfl rfl rfl rfl (by (try simp only [List.length_append, List.length_cons, List.length_nil]); omega) (fun a9 c9 => ?_))
   refine ⟨qR, qS, ?_⟩
   refine tP 6 ?_
   refine WA.done qK ?_
   refine zU (zQ (zG (zR 2 rfl ?_)))
   refine' WG.y rfl rfl qD (Yl.load1 tab_ok rfl rfl rfl (fun _ => rfl) ?r5 rfl ?h5) ?_
   case r5 => apply Rd.add; (exact Rd.ro qU)
   case h5 => rfl
   refine WL.call en67 rfl rfl (by decide) (CallOp.mkT rfl rfl rfl rfl) (Num03_C hG w1 hb2 (by constructor <;> omega) (by (try simp only [List.length_append, List.length_cons, List.length_nil]); omega)) ?_
   rintro _ _ _ - ⟨a8, c8, rfl, rfl, rfl⟩
   refine zR 1 rfl (zN (zU (zQ ?_)))
   have efc : (((fmtVals c.vals ++ [112, 101, 114, 32]) ++ wordV c.per) ++ [32, 105, 110, 99, 32]) ++ wordV c.inc = fmtC c := by
    unfold fmtC wordV
    rw [if_neg (by unfold INF; omega), if_neg (by unfold INF; omega)]
    simp [wPer, wInc]
   rw [efc]
   refine zQ (zG (zR 3 rfl (zN (zU ?_))))
   refine W.condD rfl (fun hc2 => ?_) (fun hc2 => ?_)
   ·try dsimp only at hc2
    have hf : formatR c = ([], 3) := by unfold formatR; rw [if_neg (by rw [hv]; decide), if_pos (by omega)]
    refine zQ (zG (zR 2 rfl (zN (zU (zT (wt ?_))))))
    refine WE.rebase hm1 ?_
    refine WE.retF tab_ok [_, _] rfl ⟨rfl, rfl, trivial⟩ (by first | exact RLe.refl _ | exact hR1) ?_
    rw [hf]; rfl
   ·try dsimp only at hc2
    have hf : formatR c = (fmtC c, 0) := by unfold formatR; rw [if_neg (by rw [hv]; decide), if_neg (by omega)]
    refine zK (zU (zQ (zG (zR 1 rfl ?_))))
    refine WG.y rfl rfl qD (Yl.bytesStr (l := fmtC c) 0 tab_ok rfl rfl rfl rfl rfl rfl rfl rfl rfl rfl qO (fun _ => rfl)) ?_
    refine zR 2 rfl (zN (zU (zT ?_)))
    refine WE.rebase hm1 ?_
    refine WE.retF tab_ok [_, _] rfl ⟨rfl, rfl, trivial⟩ (by first | exact RLe.refl _ | exact hR1) ?_
    rw [hf]; rfl



theorem CFiniteG_V {R : Ro} {fa : Option Addr} {fc : Nat} {c : Cv} (ha : RS R 1 encI fa c.vals) : FnV Tryz.prog 83 [.agg #[.slice fa c.vals.length fc, .int .i64 c.per, .int .i64 c.inc]] R (.bool (validB c && finB c)) := by
 refine FnV.ofOwn (fun w0 hb0 => ?_)
 refine fE 9 Tryz.func83 ?_
 refine zQ (zG ?_)
 refine zO fun b1 => ?_
 refine zR 1 rfl (zN (zU (zQ (zG ?_))))
 refine' WG.y rfl rfl qD (Yl.load1 tab_ok rfl rfl rfl (fun _ => rfl) ?r1 rfl ?h1) ?_
 case r1 => (first | exact Rd.blk 0 rfl)
 case h1 => rfl
 refine WG.callV en66 rfl rfl qD (CallOp.mk' rfl rfl rfl rfl) (fun _ => rfl) (fun hg => CValidX_V ha) ?_
 refine zR 1 rfl ?_
 refine' WG.y rfl rfl qD (Yl.loadG tab_ok rfl rfl rfl qE ?r2 rfl ?h2 ?g2) ?_
 case r2 => (first | exact Rd.blkC 0 rfl)
 case h2 => rfl
 case g2 => exact fun _ => trivial
 refine WG.callV en94 rfl rfl (by decide) (CallOp.mk' rfl rfl rfl rfl) qE (fun hg => WFiniteG_V (by simpa using hg) ha) ?_
 refine yN ?_
 refine zR 1 rfl (zN (zU (zT ?_)))
 refine WE.subE (E' := []) qS ?_
 refine WE.retF tab_ok [_] rfl ⟨rfl, trivial⟩ (RLe.refl _) ?_
 exact rfl

set_option maxHeartbeats 1000000 in
theorem Route_V {R : Ro} {na la fa : Option Addr} {nc lc fc : Nat} {names : List (List UInt8)} {ms : List LnM} {fs : List FlM} {x1 x2 : Option Addr} {xc1 xc2 : Nat} {f : Fl} (hla : K.RS R 5 encLn la ms) (hxr : K.RS R 1 encI x1 f.route) : FnV Tryz.prog 63 [.agg #[.slice na names.length nc, .slice la ms.length lc, .slice fa fs.length fc], .agg #[.string (str f.name), .slice x1 f.route.length xc1, .int .i64 f.cls, .int .i64 f.lo, .int .i64 f.hi, .slice x2 f.cv.vals.length xc2, .int .i64 f.cv.per, .int .i64 f.cv.inc]] R (.int .i64 (routeE (ms.map (·.L)) f)) := by
 refine FnV.ofOwn (fun w0 hb0 => ?_)
 have hll := hla.len
 have hrl := hxr.len
 have hml : (ms.map (·.L)).length = ms.length := List.length_map ..
 refine fE 53 Tryz.func63 ?_
 refine zQ (zG ?_)
 refine zO fun b2 => ?_
 refine zO fun b3 => ?_
 refine zR 1 rfl (zN (zU (zQ (zQ (zG (zR 1 rfl ?_))))))
 refine yL (Rd.add (Rd.blk 0 rfl) _) ?_
 refine zR 2 rfl (zN (zU ?_))
 refine W.condE rfl (fun hc0 => ?_) (fun hc0 => ?_)
 ·try dsimp only at hc0
  have hE : routeE (ms.map (·.L)) f = 5 := if_pos (by omega)
  refine zQ (zG (zR 1 rfl (zN (zU (zT (wt ?_))))))
  refine WE.subE (E' := []) qS ?_
  refine WE.retF tab_ok [_] rfl ⟨rfl, trivial⟩ (RLe.refl _) ?_
  show Value.int .i64 _ = _
  rw [hE]
 ·try dsimp only at hc0
  refine zK (zU (zQ (zQ (zG (zR 1 rfl ?_)))))
  refine yL (Rd.add (Rd.blk 0 rfl) _) ?_
  refine zR 2 rfl (zN (zU ?_))
  refine W.condD rfl (fun hc1 => ?_) (fun hc1 => ?_)
  ·try dsimp only at hc1
   have hE : routeE (ms.map (·.L)) f = 3 := by unfold routeE; rw [if_neg (by omega), if_pos (by omega)]
   refine zQ (zG (zR 1 rfl (zN (zU (zT (wt ?_))))))
   refine WE.subE (E' := []) qS ?_
   refine WE.retF tab_ok [_] rfl ⟨rfl, trivial⟩ (RLe.refl _) ?_
   show Value.int .i64 _ = _
   rw [hE]
  ·try dsimp only at hc1
   have hE : routeE (ms.map (·.L)) f = routeGo (ms.map (·.L)) f.cls [] f.route := by unfold routeE; rw [if_neg (by omega), if_neg (by omega)]
   refine zK (zU (zQ (zG ?_)))
   refine WL.ef rfl rfl qD (Ef.makeMap rfl (fun b16 => ?_))
   refine zR 1 rfl (zN (zU (zQ (zQ (zG (zR 1 rfl ?_))))))
   refine yL (Rd.add (Rd.blk 1 rfl) _) ?_
   refine zR 2 rfl (zN (zU (zB ?_)))
   refine W.loopK (β := Nat) (fun i => i ≤ f.route.length ∧ routeGo (ms.map (·.L)) f.cls (f.route.take i) (f.route.drop i) = routeGo (ms.map (·.L)) f.cls [] f.route) (fun i => [(20, true, .int .i64 (i : Int))]) [2, 3, 5, 18, 19] [_, _, _, _, _] [] _ rfl (fun i => [(0, .obj b16 (setZ (f.route.take i)))]) (fun i => f.route.length - i) (0) (⟨Nat.zero_le _, rfl⟩) ⟨rfl, rfl, rfl, rfl, rfl, rfl, rfl⟩ qS ?_
   intro i hst
   dsimp only [zipE, setAll, List.cons_append, List.nil_append, List.set_cons_zero, List.set_cons_succ] at hst ⊢
   obtain ⟨hi, hch⟩ := hst
   refine zQ (zG (zR 1 rfl (zN (zU (zQ ?_)))))
   refine W.condD rfl (fun hc2 => ?_) (fun hc2 => ?_)
   ·try dsimp only at hc2
    have hil : i < f.route.length := by omega
    rw [show f.route.drop i = nth f.route i :: f.route.drop (i + 1) by rw [nth_eq hil]; exact List.drop_eq_getElem_cons hil, routeGo, hml] at hch
    refine zK (zU (zQ (zB (zQ (zG ?_)))))
    refine WG.y rfl rfl qD (Yl.indexN tab_ok rfl rfl rfl rfl rfl rfl (fun _ => rfl) qN qH) ?_
    refine' WG.y rfl rfl qD (Yl.load1 tab_ok rfl rfl rfl (fun _ => rfl) ?r4 rfl ?h4) ?_
    case r4 => exact RS.rdD hxr hil
    case h4 => rfl
    refine zR 1 rfl (zN (zU (zQ (zQ (zG (zR 3 rfl ?_))))))
    refine yP ?_
    refine yP ?_
    refine yG (Rd.addC (Rd.blkC 2 rfl) _) ?_
    refine yP ?_
    refine yP ?_
    refine yO ?_
    refine zN (zU ?_)
    refine W.cond rfl (fun hc3 => ?_) (fun hc3 => ?_)
    ·try simp only [zk] at hc3
     rw [if_pos (by omega)] at hch
     refine zQ (zG (zR 1 rfl (zN (zU (zT (wt (wb (wt (wt (wb (wt ?_)))))))))))
     refine WE.subE (E' := []) qS ?_
     refine WE.retF tab_ok [_] rfl ⟨rfl, trivial⟩ (RLe.refl _) ?_
     show Value.int .i64 _ = _
     rw [hE, ← hch]
    ·try simp only [zk] at hc3
     have hr0 : 0 ≤ nth f.route i ∧ nth f.route i < ms.length := by omega
     rw [if_neg (by omega)] at hch
     refine zK (zU (zQ (zQ (zG (zR 2 rfl ?_)))))
     refine WG.y rfl rfl qD (Yl.setHasI tab_ok rfl rfl rfl rfl rfl rfl rfl rfl (fun _ => rfl)) ?_
     refine zN (zU ?_)
     refine W.cond rfl (fun hc4 => ?_) (fun hc4 => ?_)
     ·try simp only [zk] at hc4
      have hin : nth f.route i ∈ f.route.take i := by simpa using hc4
      rw [if_pos hin] at hch
      refine zQ (zG (zR 1 rfl (zN (zU (zT (wt (wb (wt (wt (wb (wt ?_)))))))))))
      refine WE.subE (E' := []) qS ?_
      refine WE.retF tab_ok [_] rfl ⟨rfl, trivial⟩ (RLe.refl _) ?_
      show Value.int .i64 _ = _
      rw [hE, ← hch]
     ·try simp only [zk] at hc4
      have hin : nth f.route i ∉ f.route.take i := by simpa using hc4
      rw [if_neg hin] at hch
      obtain ⟨j, hj⟩ := Int.eq_ofNat_of_zero_le hr0.1
      have hjm : j < ms.length := by omega
      have hjn : nth (ms.map (·.L)) (nth f.route i).toNat = (nth ms j).L := by
       rw [hj, show ((j : Int)).toNat = j from rfl, nth_eq (by rw [hml]; exact hjm), List.getElem_map, nth_eq hjm]
      rw [hjn] at hch
      rw [hj]
      refine zK (zU (zQ (zG (zR 2 rfl ?_))))
      refine WL.efN rfl rfl (Ef.setAddI tab_ok rfl rfl rfl rfl rfl rfl rfl rfl (by rw [← hj]; exact hin) ?_)
      refine zN (zU (zQ ?_))
      refine W.regionQ _ mixed qK ?_
      refine zR 1 rfl ?_
      refine yL (Rd.add (Rd.blk 1 rfl) _) ?_
      refine zR 2 rfl ?_
      refine yP ?_
      refine yG (Rd.addC (Rd.blkC 1 rfl) _) ?_
      refine yP ?_
      refine yG (Rd.addC (Rd.blkC 2 rfl) _) ?_
      refine yP ?_
      refine WG.y rfl rfl (by decide) (Yl.indexN tab_ok rfl rfl rfl rfl rfl rfl qE (by intro hg; (try simp only [zk] at hg); (try dsimp only) <;> omega) (by intro hg; (try simp only [zk] at hg); first | exact qI)) ?_
      refine yP ?_
      refine' WG.y rfl rfl qD (Yl.loadG tab_ok rfl rfl rfl qE ?r9 rfl ?h9 ?g9) ?_
      case r9 => apply Rd.addC; ((apply RS.rdC; assumption))
      case h9 => rfl
      case g9 => (intro hg; (try simp only [zk] at hg); (try dsimp only); omega)
      refine yP ?_
      refine yO ?_
      refine zN (zU ?_)
      refine W.cond rfl (fun hc5 => ?_) (fun hc5 => ?_)
      ·try simp only [zk] at hc5
       rw [if_pos (by omega)] at hch
       refine zQ (zG (zR 1 rfl (zN (zU (zT (wb (wt (wt (wb (wt ?_))))))))))
       refine WE.subE (E' := []) qS ?_
       refine WE.retF tab_ok [_] rfl ⟨rfl, trivial⟩ (RLe.refl _) ?_
       show Value.int .i64 _ = _
       rw [hE, ← hch]
      ·try simp only [zk] at hc5
       rw [if_neg (by omega), ← take_nth hil] at hch
       rw [← hj, ← take_nth hil]
       refine zK (zL (zU (zG ?_)))
       refine yA ?_
       refine zR 1 rfl (zN ?_)
       refine WE.again (i + 1) (⟨by omega, hch⟩) (by (try dsimp only); omega) ⟨rfl, rfl, rfl, rfl, rfl, rfl, rfl⟩ (RLe.refl _) qS
   ·try dsimp only at hc2
    obtain rfl : i = f.route.length := by omega
    rw [List.drop_length] at hch
    refine zX ?_
    refine wx (wx (zY (zU (zQ (zG (zR 1 rfl (zN (zU (zT ?_)))))))))
    refine WE.subE (E' := []) qS ?_
    refine WE.retF tab_ok [_] rfl ⟨rfl, trivial⟩ (RLe.refl _) ?_
    show Value.int .i64 _ = _
    rw [hE, ← hch]; rfl

set_option maxHeartbeats 1000000 in
theorem Traf24_V {R : Ro} {x1 x2 : Option Addr} {xc1 xc2 : Nat} {f : Fl} (hxv : K.RS R 1 encI x2 f.cv.vals) : FnV Tryz.prog 64 [.agg #[.string (str f.name), .slice x1 f.route.length xc1, .int .i64 f.cls, .int .i64 f.lo, .int .i64 f.hi, .slice x2 f.cv.vals.length xc2, .int .i64 f.cv.per, .int .i64 f.cv.inc]] R (.int .i64 (trafE f)) := by
 refine FnV.ofOwn (fun w0 hb0 => ?_)
 have hvl := hxv.len
 refine fE 36 Tryz.func64 ?_
 refine zQ (zG ?_)
 refine zO fun b1 => ?_
 refine zR 1 rfl (zN (zU (zQ (zQ (zG (zR 2 rfl ?_))))))
 refine yL (Rd.add (Rd.add (Rd.blk 0 rfl) _) _) ?_
 refine zR 2 rfl ?_
 refine yP ?_
 refine yP ?_
 refine yG (Rd.addC (Rd.addC (Rd.blkC 0 rfl) _) _) ?_
 refine yP ?_
 refine yP ?_
 refine yG (Rd.addC (Rd.addC (Rd.blkC 0 rfl) _) _) ?_
 refine yP ?_
 refine yO ?_
 refine zR 1 rfl ?_
 refine yP ?_
 refine yP ?_
 refine yG (Rd.addC (Rd.addC (Rd.blkC 0 rfl) _) _) ?_
 refine yP ?_
 refine yO ?_
 refine zN (zU ?_)
 refine W.cond rfl (fun hc0 => ?_) (fun hc0 => ?_)
 ·try simp only [zk] at hc0
  have hE : trafE f = 2 := if_pos (by omega)
  refine zQ (zG (zR 1 rfl (zN (zU (zT (wt ?_))))))
  refine WE.subE (E' := []) qS ?_
  refine WE.retF tab_ok [_] rfl ⟨rfl, trivial⟩ (RLe.refl _) ?_
  show Value.int .i64 _ = _
  rw [hE]
 ·try simp only [zk] at hc0
  have h0 : ¬ (f.lo < 1 ∨ f.hi < f.lo ∨ 1500 < f.hi) := by omega
  refine zK (zU (zQ (zQ (zG (zR 1 rfl ?_)))))
  refine yL (Rd.add (Rd.blk 0 rfl) _) ?_
  refine WG.callV en66 rfl rfl qD (CallOp.mk' rfl rfl rfl rfl) (fun _ => rfl) (fun hg => CValidX_V hxv) ?_
  refine zR 1 rfl (zN (zU ?_))
  refine W.cond rfl (fun hc1 => ?_) (fun hc1 => ?_)
  ·try simp only [zk] at hc1
   have hv : validB f.cv = false := by simpa using hc1
   have hE : trafE f = 1 := by unfold trafE; rw [if_neg h0, if_pos hv]
   refine zQ (zG (zR 1 rfl (zN (zU (zT (wt ?_))))))
   refine WE.subE (E' := []) qS ?_
   refine WE.retF tab_ok [_] rfl ⟨rfl, trivial⟩ (RLe.refl _) ?_
   show Value.int .i64 _ = _
   rw [hE]
  ·try simp only [zk] at hc1
   have hv : validB f.cv = true := by simpa using hc1
   have hv1 := (validB_iff.1 hv).1.1
   refine zK (zU (zQ (zQ (zG (zR 2 rfl ?_)))))
   refine yL (Rd.add (Rd.add (Rd.blk 0 rfl) _) _) ?_
   refine WG.y rfl rfl qD (Yl.indexN tab_ok rfl rfl rfl rfl rfl rfl (fun _ => rfl) qN qH) ?_
   refine' WG.y rfl rfl qD (Yl.load1 tab_ok rfl rfl rfl (fun _ => rfl) ?r7 rfl ?h7) ?_
   case r7 => exact RS.rdD hxv hv1
   case h7 => rfl
   refine zR 1 rfl (zN (zU ?_))
   refine W.condN rfl (fun hc2 => ?_) (fun hc2 => ?_)
   ·try dsimp only at hc2
    have hE : trafE f = 6 := by unfold trafE; rw [if_neg h0, if_neg (by rw [hv]; decide), if_pos (by omega)]
    refine zQ (zG (zR 1 rfl (zN (zU (zT (wt ?_))))))
    refine WE.subE (E' := []) qS ?_
    refine WE.retF tab_ok [_] rfl ⟨rfl, trivial⟩ (RLe.refl _) ?_
    show Value.int .i64 _ = _
    rw [hE]
   ·try dsimp only at hc2
    refine zK (zU (zQ (zQ (zG (zR 1 rfl ?_)))))
    refine yL (Rd.add (Rd.blk 0 rfl) _) ?_
    refine WG.callV en83 rfl rfl qD (CallOp.mk' rfl rfl rfl rfl) (fun _ => rfl) (fun hg => CFiniteG_V hxv) ?_
    refine zR 1 rfl (zN (zU ?_))
    refine W.cond rfl (fun hc3 => ?_) (fun hc3 => ?_)
    ·try simp only [zk] at hc3
     have hfn : finB f.cv = false := by rw [hv] at hc3; simpa using hc3
     have hE : trafE f = 2 := by unfold trafE; rw [if_neg h0, if_neg (by rw [hv]; decide), if_neg (by omega), if_pos hfn]
     refine zQ (zG (zR 1 rfl (zN (zU (zT (wt ?_))))))
     refine WE.subE (E' := []) qS ?_
     refine WE.retF tab_ok [_] rfl ⟨rfl, trivial⟩ (RLe.refl _) ?_
     show Value.int .i64 _ = _
     rw [hE]
    ·try simp only [zk] at hc3
     have hfn : finB f.cv = true := by rw [hv] at hc3; simpa using hc3
     have hE : trafE f = 0 := by unfold trafE; rw [if_neg h0, if_neg (by rw [hv]; decide), if_neg (by omega), if_neg (by rw [hfn]; decide)]
     refine zK (zU (zQ (zG (zR 1 rfl (zN (zU (zT ?_)))))))
     refine WE.subE (E' := []) qS ?_
     refine WE.retF tab_ok [_] rfl ⟨rfl, trivial⟩ (RLe.refl _) ?_
     show Value.int .i64 _ = _
     rw [hE]



set_option maxHeartbeats 1000000 in
theorem NCheck_E {R : Ro} {E : List Ent} {na la fa : Option Addr} {nc lc fc : Nat} {names : List (List UInt8)} {ms : List LnM} {fs : List FlM} (hna : K.RS R 1 encT na names) (hla : K.RS R 5 encLn la ms) (hfa : LsF R E fa fs) (hok : ∀ m ∈ ms, OkLn R m) (hof : ∀ m ∈ fs, OkFl R m) (hnl : ∀ x ∈ names, x.length ≤ 9223372036854775807) (w0 : World) : FnE Tryz.prog 32 [.agg #[.slice na names.length nc, .slice la ms.length lc, .slice fa fs.length fc]] w0 R E (.int .i64 (chkNet names (ms.map (·.L)) (fs.map (·.f)))) := by
 refine Fn.toE ?_
 have hll := hla.len
 have hfl := hfa.len
 have hml : (ms.map (·.L)).length = ms.length := List.length_map ..
 have hfml : (fs.map (·.f)).length = fs.length := List.length_map ..
 refine fE 89 Tryz.func32 ?_
 refine zQ (zG ?_)
 refine zO fun b1 => ?_
 refine zR 1 rfl (zN (zU (zQ (zQ (zG (zR 1 rfl ?_))))))
 refine yL (Rd.add (Rd.blk 0 rfl) _) ?_
 refine zR 3 rfl ?_
 refine yP ?_
 refine yG (Rd.addC (Rd.blkC 0 rfl) _) ?_
 refine yP ?_
 refine yP ?_
 refine yO ?_
 refine zR 1 rfl ?_
 refine yP ?_
 refine yG (Rd.addC (Rd.blkC 0 rfl) _) ?_
 refine yP ?_
 refine yP ?_
 refine yO ?_
 refine zN (zU ?_)
 refine W.cond rfl (fun hc0 => ?_) (fun hc0 => ?_)
 ·try simp only [zk] at hc0
  refine zQ (zG (zR 1 rfl (zN (zU (zT (wt ?_))))))
  refine sE (E := E) ?_
  refine WE.retF tab_ok [_] rfl ⟨rfl, trivial⟩ (RLe.refl _) ?_
  refine ⟨?_, rfl⟩
  show Value.int .i64 _ = Value.int .i64 _
  unfold chkNet; rw [hml, hfml, if_pos (by omega)]
 ·try simp only [zk] at hc0
  refine zK (zU (zQ (zQ (zG (zR 1 rfl ?_)))))
  refine yL (Rd.add (Rd.blk 0 rfl) _) ?_
  refine zR 2 rfl ?_
  refine yL (Rd.add (Rd.blk 0 rfl) _) ?_
  refine zR 2 rfl (zN (zU ?_))
  refine W.condN rfl (fun hc1 => ?_) (fun hc1 => ?_)
  ·try dsimp only at hc1
   refine zQ (zG (zR 1 rfl (zN (zU (zT (wt ?_))))))
   refine sE (E := E) ?_
   refine WE.retF tab_ok [_] rfl ⟨rfl, trivial⟩ (RLe.refl _) ?_
   refine ⟨?_, rfl⟩
   show Value.int .i64 _ = Value.int .i64 _
   unfold chkNet; rw [hml, hfml, if_neg (by omega), if_pos (by omega)]
  ·try dsimp only at hc1
   have hcn : chkNet names (ms.map (·.L)) (fs.map (·.f)) = if chkLs [] (names.zip (ms.map (·.L))) ≠ 0 then chkLs [] (names.zip (ms.map (·.L))) else chkFs (ms.map (·.L)) [] (fs.map (·.f)) := by unfold chkNet; rw [hml, hfml, if_neg (by omega), if_neg (by omega)]
   refine zK (zU (zQ (zG ?_)))
   refine WL.ef rfl rfl qD (Ef.makeMap rfl (fun b37 => ?_))
   refine zR 1 rfl (zN (zU (zQ (zQ (zG (zR 1 rfl ?_))))))
   refine yL (Rd.add (Rd.blk 1 rfl) _) ?_
   refine zR 2 rfl (zN (zU (zB ?_)))
   refine W.loopK (β := Nat) (fun i => i ≤ ms.length ∧ chkLs (names.take i) ((names.zip (ms.map (·.L))).drop i) = chkLs [] (names.zip (ms.map (·.L)))) (fun i => [(41, true, .int .i64 (i : Int))]) [1, 3, 39, 40] [_, _, _, _] [] _ rfl (fun i => [(0, .obj b37 (setO (names.take i)))]) (fun i => ms.length - i) (0) (⟨Nat.zero_le _, rfl⟩) ⟨rfl, rfl, rfl, rfl, rfl, rfl⟩ qS ?_
   intro i hst
   dsimp only [zipE, setAll, List.cons_append, List.nil_append, List.set_cons_zero, List.set_cons_succ] at hst ⊢
   obtain ⟨hi, hch⟩ := hst
   refine zQ (zG (zR 1 rfl (zN (zU (zQ ?_)))))
   refine W.condD rfl (fun hc2 => ?_) (fun hc2 => ?_)
   ·try dsimp only at hc2
    have him : i < ms.length := by omega
    have hin : i < names.length := by omega
    have hnL : ∃ q : Ln, q = (nth ms i).L ∧ (ms.map (·.L)).length = ms.length ∧ (names.zip (ms.map (·.L))).drop i = (nth names i, q) :: (names.zip (ms.map (·.L))).drop (i + 1) := by
     have hl : i < (names.zip (ms.map (·.L))).length := by rw [List.length_zip, hml]; omega
     refine ⟨_, rfl, hml, ?_⟩
     rw [List.drop_eq_getElem_cons hl, List.getElem_zip, nth_eq hin, nth_eq him, List.getElem_map]
    obtain ⟨q, hq, _, hdr⟩ := hnL
    rw [hdr, chkLs] at hch
    dsimp only at hch
    subst hq
    refine zK (zU (zQ (zB (zQ (zG (zR 1 rfl ?_))))))
    refine WG.y rfl rfl qD (Yl.indexN tab_ok rfl rfl rfl rfl rfl rfl (fun _ => rfl) qN (by intro _; first | exact (hfa.sub (RLe.refl _) qS).has | exact qI)) ?_
    refine' WG.y rfl rfl qD (Yl.load1 tab_ok rfl rfl rfl (fun _ => rfl) ?r7 rfl ?h7) ?_
    case r7 => exact RS.rdD hla him
    case h7 => rfl
    refine zA fun b5 => ?_
    refine zR 1 rfl ?_
    refine zE 0 ?_
    refine zN (zU (zQ (zQ (zG (zR 2 rfl ?_)))))
    refine yL (Rd.add (Rd.blk 2 rfl) _) ?_
    refine zR 1 rfl ?_
    refine WG.y rfl rfl qD (Yl.indexN tab_ok rfl rfl rfl rfl rfl rfl (fun _ => rfl) qN (by intro _; first | exact (hfa.sub (RLe.refl _) qS).has | exact qI)) ?_
    refine' WG.y rfl rfl qD (Yl.load1 tab_ok rfl rfl rfl (fun _ => rfl) ?r9 rfl ?h9) ?_
    case r9 => exact RS.rdD hna hin
    case h9 => rfl
    refine WL.callAt 1 en62 rfl rfl qD (CallOp.mkT rfl rfl rfl rfl) rfl (Fresh_C (met := names.take i) (n := nth names i) (hnl _ (nth_mem hin)) w0 _) ?_
    rintro _ _ _ _ - ⟨rfl, rfl, rfl, rfl⟩
    refine zR 1 rfl (zN (zU (zQ (zG (zR 2 rfl (zN (zU ?_)))))))
    refine W.condN rfl (fun hc3 => ?_) (fun hc3 => ?_)
    ·try dsimp only at hc3
     rw [if_pos hc3] at hch
     have hq := hcn.trans (if_pos (by rw [← hch]; exact hc3))
     refine zQ (zG (zR 2 rfl (zN (zU (zT (wt (wb (wt (wt (wb (wt ?_)))))))))))
     refine sE (E := E) ?_
     refine WE.retF tab_ok [_] rfl ⟨rfl, trivial⟩ (RLe.refl _) ?_
     refine ⟨?_, rfl⟩
     show Value.int .i64 _ = Value.int .i64 _
     rw [hq, ← hch]
    ·try dsimp only at hc3
     have hf0 : frE (names.take i) (nth names i) = 0 := by first | exact hc3 | exact Classical.not_not.1 hc3
     rw [if_neg (fun h => h hf0)] at hch
     rw [if_pos hf0, ← take_nth hin]
     refine zK (zU (zQ (zG ?_)))
     refine yL (Rd.blk 0 rfl) ?_
     refine WG.callV en42 rfl rfl qD (CallOp.mk' rfl rfl rfl rfl) (fun _ => rfl) (fun hg => ChkSrv_V (L := (nth ms i).L) (hok _ (nth_mem him)).1 rfl (hok _ (nth_mem him)).2 rfl) ?_
     refine zR 1 rfl (zN (zU (zQ (zG (zR 2 rfl (zN (zU ?_)))))))
     refine W.condN rfl (fun hc4 => ?_) (fun hc4 => ?_)
     ·try dsimp only at hc4
      rw [if_pos hc4] at hch
      have hq := hcn.trans (if_pos (by rw [← hch]; exact hc4))
      refine zQ (zG (zR 2 rfl (zN (zU (zT (wb (wt (wt (wb (wt ?_))))))))))
      refine sE (E := E) ?_
      refine WE.retF tab_ok [_] rfl ⟨rfl, trivial⟩ (RLe.refl _) ?_
      refine ⟨?_, rfl⟩
      show Value.int .i64 _ = Value.int .i64 _
      rw [hq, ← hch]
     ·try dsimp only at hc4
      have hf1 : chkL (nth ms i).L = 0 := by first | exact hc4 | exact Classical.not_not.1 hc4
      rw [if_neg (fun h => h hf1), ← take_nth hin] at hch
      refine zK (zL (zU (zG ?_)))
      refine yA ?_
      refine zR 1 rfl (zN ?_)
      refine WE.again (i + 1) (⟨by omega, hch⟩) (by (try dsimp only); omega) ⟨rfl, rfl, rfl, rfl, rfl, rfl⟩ (RLe.refl _) qS
   ·try dsimp only at hc2
    obtain rfl : i = ms.length := by omega
    rw [List.drop_of_length_le (by rw [List.length_zip, hml]; omega)] at hch
    have hcl : chkLs [] (names.zip (ms.map (·.L))) = 0 := hch.symm
    rw [if_neg (fun h => h hcl)] at hcn
    refine zX ?_
    refine wx (wx (zY (zU (zQ (zG ?_)))))
    refine WL.ef rfl rfl qD (Ef.makeMap rfl (fun b62 => ?_))
    refine zR 1 rfl (zN (zU (zQ (zQ (zG (zR 1 rfl ?_))))))
    refine yL (Rd.add (Rd.blk 2 rfl) _) ?_
    refine zR 2 rfl (zN (zU (zB ?_)))
    refine W.loopK (β := Nat) (fun i => i ≤ fs.length ∧ chkFs (ms.map (·.L)) ((fs.map FlM.nm).take i) ((fs.map (·.f)).drop i) = chkFs (ms.map (·.L)) [] (fs.map (·.f))) (fun i => [(66, true, .int .i64 (i : Int))]) [1, 8, 64, 65] [_, _, _, _] [] _ rfl (fun i => [(0, .obj b62 (setO ((fs.map FlM.nm).take i)))]) (fun i => fs.length - i) (0) (⟨Nat.zero_le _, rfl⟩) ⟨rfl, rfl, rfl, rfl, rfl, rfl⟩ qS ?_
    intro i hst
    dsimp only [zipE, setAll, List.cons_append, List.nil_append, List.set_cons_zero, List.set_cons_succ] at hst ⊢
    obtain ⟨hi, hch⟩ := hst
    refine zQ (zG (zR 1 rfl (zN (zU (zQ ?_)))))
    refine W.condD rfl (fun hc5 => ?_) (fun hc5 => ?_)
    ·try dsimp only at hc5
     have hif : i < fs.length := by omega
     have hnmi : nth (fs.map FlM.nm) i = (nth fs i).f.name := by rw [nth_eq (by rw [List.length_map]; exact hif), List.getElem_map, nth_eq hif]; rfl
     have hnml : i < (fs.map FlM.nm).length := by rw [List.length_map]; exact hif
     rw [show (fs.map (·.f)).drop i = (nth fs i).f :: (fs.map (·.f)).drop (i + 1) by
      have hl : i < (fs.map (·.f)).length := by omega
      rw [List.drop_eq_getElem_cons hl, List.getElem_map, nth_eq hif], chkFs] at hch
     refine zK (zU (zQ (zB (zQ (zG ?_)))))
     refine WG.y rfl rfl qD (Yl.indexN tab_ok rfl rfl rfl rfl rfl rfl (fun _ => rfl) qN (by intro _; first | exact (hfa.sub (RLe.refl _) qS).has | exact qI)) ?_
     refine' WG.y rfl rfl qD (Yl.load1 tab_ok rfl rfl rfl (fun _ => rfl) ?r12 rfl ?h12) ?_
     case r12 => exact (hfa.sub (RLe.refl _) qS).rd _ hif
     case h12 => rfl
     refine zA fun b10 => ?_
     refine zE 0 ?_
     refine zN (zU (zQ (zQ (zG (zR 2 rfl ?_)))))
     refine yL (Rd.add (Rd.blk 0 rfl) _) ?_
     refine WL.callAt 1 en62 rfl rfl qD (CallOp.mkT rfl rfl rfl rfl) rfl (Fresh_C (met := (fs.map FlM.nm).take i) (n := (nth fs i).f.name) (hof _ (nth_mem hif)).name w0 _) ?_
     rintro _ _ _ _ - ⟨rfl, rfl, rfl, rfl⟩
     refine zR 1 rfl (zN (zU (zQ (zG (zR 2 rfl (zN (zU ?_)))))))
     refine W.condN rfl (fun hc6 => ?_) (fun hc6 => ?_)
     ·try dsimp only at hc6
      have hfe : flE ((fs.map FlM.nm).take i) (ms.map (·.L)) (nth fs i).f = frE ((fs.map FlM.nm).take i) (nth fs i).f.name := if_pos hc6
      rw [hfe, if_pos hc6] at hch
      refine zQ (zG (zR 2 rfl (zN (zU (zT (wt (wb (wt (wt (wb (wt ?_)))))))))))
      refine sE (E := E) ?_
      refine WE.retF tab_ok [_] rfl ⟨rfl, trivial⟩ (RLe.refl _) ?_
      refine ⟨?_, rfl⟩
      show Value.int .i64 _ = Value.int .i64 _
      rw [hcn, ← hch]
     ·try dsimp only at hc6
      have hf0 : frE ((fs.map FlM.nm).take i) (nth fs i).f.name = 0 := by first | exact hc6 | exact Classical.not_not.1 hc6
      have hfe : flE ((fs.map FlM.nm).take i) (ms.map (·.L)) (nth fs i).f = if routeE (ms.map (·.L)) (nth fs i).f ≠ 0 then routeE (ms.map (·.L)) (nth fs i).f else trafE (nth fs i).f := if_neg (fun h => h hf0)
      rw [if_pos hf0, ← hnmi, ← take_nth hnml]
      refine zK (zU (zQ (zQ (zG ?_))))
      refine yL (Rd.blk 3 rfl) ?_
      refine yL (Rd.blk 0 rfl) ?_
      refine WG.callV en63 rfl rfl qD (CallOp.mk' rfl rfl rfl rfl) (fun _ => rfl) (fun hg => Route_V (f := (nth fs i).f) hla (hof _ (nth_mem hif)).route) ?_
      refine zR 1 rfl (zN (zU (zQ (zG (zR 2 rfl (zN (zU ?_)))))))
      refine W.condN rfl (fun hc7 => ?_) (fun hc7 => ?_)
      ·try dsimp only at hc7
       rw [if_pos hc7] at hfe
       rw [hfe, if_pos hc7] at hch
       refine zQ (zG (zR 2 rfl (zN (zU (zT (wt (wb (wt (wt (wb (wt ?_)))))))))))
       refine sE (E := E) ?_
       refine WE.retF tab_ok [_] rfl ⟨rfl, trivial⟩ (RLe.refl _) ?_
       refine ⟨?_, rfl⟩
       show Value.int .i64 _ = Value.int .i64 _
       rw [hcn, ← hch]
      ·try dsimp only at hc7
       have hr0 : routeE (ms.map (·.L)) (nth fs i).f = 0 := by first | exact hc7 | exact Classical.not_not.1 hc7
       rw [if_neg (fun h => h hr0)] at hfe
       refine zK (zU (zQ (zG ?_)))
       refine yL (Rd.blk 0 rfl) ?_
       refine WG.callV en64 rfl rfl qD (CallOp.mk' rfl rfl rfl rfl) (fun _ => rfl) (fun hg => Traf24_V (f := (nth fs i).f) (hof _ (nth_mem hif)).vals) ?_
       refine zR 1 rfl (zN (zU (zQ (zG (zR 2 rfl (zN (zU ?_)))))))
       refine W.condN rfl (fun hc8 => ?_) (fun hc8 => ?_)
       ·try dsimp only at hc8
        rw [hfe, if_pos hc8] at hch
        refine zQ (zG (zR 2 rfl (zN (zU (zT (wb (wt (wt (wb (wt ?_))))))))))
        refine sE (E := E) ?_
        refine WE.retF tab_ok [_] rfl ⟨rfl, trivial⟩ (RLe.refl _) ?_
        refine ⟨?_, rfl⟩
        show Value.int .i64 _ = Value.int .i64 _
        rw [hcn, ← hch]
       ·try dsimp only at hc8
        have ht0 : trafE (nth fs i).f = 0 := by first | exact hc8 | exact Classical.not_not.1 hc8
        rw [hfe, if_neg (fun h => h ht0), ← hnmi, ← take_nth hnml] at hch
        refine zK (zL (zU (zG ?_)))
        refine yA ?_
        refine zR 1 rfl (zN ?_)
        refine WE.again (i + 1) (⟨by omega, hch⟩) (by (try dsimp only); omega) ⟨rfl, rfl, rfl, rfl, rfl, rfl⟩ (RLe.refl _) qS
    ·try dsimp only at hc5
     obtain rfl : i = fs.length := by omega
     rw [List.drop_of_length_le (by omega)] at hch
     refine zX ?_
     refine wx (wx (zY (zU (zQ (zG (zR 1 rfl (zN (zU (zT ?_)))))))))
     refine sE (E := E) ?_
     refine WE.retF tab_ok [_] rfl ⟨rfl, trivial⟩ (RLe.refl _) ?_
     refine ⟨?_, rfl⟩
     show Value.int .i64 _ = Value.int .i64 _
     rw [hcn, ← hch]; rfl

theorem NCheck_V {R : Ro} {na la fa : Option Addr} {nc lc fc : Nat} {names : List (List UInt8)} {ms : List LnM} {fs : List FlM} (hna : K.RS R 1 encT na names) (hla : K.RS R 5 encLn la ms) (hfa : K.RS R 8 encFl fa fs) (hok : ∀ m ∈ ms, OkLn R m) (hof : ∀ m ∈ fs, OkFl R m) (hnl : ∀ x ∈ names, x.length ≤ 9223372036854775807) : FnV Tryz.prog 32 [.agg #[.slice na names.length nc, .slice la ms.length lc, .slice fa fs.length fc]] R (.int .i64 (chkNet names (ms.map (·.L)) (fs.map (·.f)))) := by
 refine FnV.ofOwn (fun w0 hb0 => ?_)
 intro w hm
 refine (NCheck_E (E := []) hna hla (LsF.ro hfa) hok hof hnl w0 w hm).mono ?_
 rintro e w' ⟨rfl, hm'⟩
 exact ⟨_, R, [], rfl, RLe.refl R, hm', rfl⟩



set_option maxHeartbeats 4000000 in
theorem FmtFl_V {R : Ro} (hG : GlobE R) {na la fa : Option Addr} {nc lc fc fl : Nat} {names : List (List UInt8)} {ms : List LnM} {x1 x2 : Option Addr} {xc1 xc2 : Nat} {f : Fl} (hna : K.RS R 1 encT na names) (hla : K.RS R 5 encLn la ms) (hok : ∀ m ∈ ms, OkLn R m) (hof : OkFl R (⟨x1, xc1, x2, xc2, f⟩ : FlM)) (hnl : ∀ x ∈ names, x.length ≤ 9223372036854775807) : FnV Tryz.prog 13 [.agg #[.slice na names.length nc, .slice la ms.length lc, .slice fa fl fc], .agg #[.string (str f.name), .slice x1 f.route.length xc1, .int .i64 f.cls, .int .i64 f.lo, .int .i64 f.hi, .slice x2 f.cv.vals.length xc2, .int .i64 f.cv.per, .int .i64 f.cv.inc]] R (.tuple #[.string (str (fmtF names (ms.map (·.L)) f)), .int .i64 (fmtFE names (ms.map (·.L)) f)]) := by
 refine FnV.ofOwn (fun w0 hb0 => ?_)
 have hll := hla.len
 have hml : (ms.map (·.L)).length = ms.length := List.length_map ..
 refine fE 68 Tryz.func13 ?_
 refine zQ (zG ?_)
 refine zO fun b2 => ?_
 refine zO fun b3 => ?_
 refine zR 2 rfl (zN (zU (zQ (zG (zR 1 rfl ?_)))))
 refine yL (Rd.add (Rd.blk 1 rfl) _) ?_
 refine zR 1 rfl ?_
 refine yL (Rd.add (Rd.blk 1 rfl) _) ?_
 refine yL (Rd.blk 0 rfl) ?_
 refine WL.ef rfl rfl qD (Ef.buildSliceD (enc := encFl) (parts := [.tmp 17]) [(⟨x1, xc1, x2, xc2, f⟩ : FlM)] tab_ok rfl rfl rfl rfl rfl rfl rfl rfl qD qD (fun a18 => ?_))
 refine WL.freeze (enc := encFl) (xs := [(⟨x1, xc1, x2, xc2, f⟩ : FlM)]) 0 rfl ?_
 intro R1 hR1 hfa
 have hG := hG.mono hR1
 have hna := hna.mono hR1
 have hla := hla.mono hR1
 have hok := fun m hm => (hok m hm).mono hR1
 have hof := hof.mono hR1
 have hxr : K.RS R1 1 encI x1 f.route := hof.route
 -- build
 refine WG.y rfl rfl qD (Yl.build (parts := [(0, .tmp 14), (1, .tmp 16), (2, .tmp 18)]) tab_ok rfl rfl rfl rfl (fun _ => rfl) rfl rfl) ?_
 refine zA fun b6 => ?_
 refine zE 0 ?_
 refine zN (zU (zQ (zQ (zG ?_))))
 refine yL (Rd.blk 0 rfl) ?_
 refine WG.callV en32 rfl rfl (by decide) (CallOp.mk' rfl rfl rfl rfl) (fun _ => rfl) (fun hg => NCheck_V (fs := [(⟨x1, xc1, x2, xc2, f⟩ : FlM)]) hna hla hfa hok (fun m hm => by rw [List.mem_singleton.1 hm]; exact hof) hnl) ?_
 refine zR 1 rfl (zN (zU (zQ (zG (zR 2 rfl (zN (zU ?_)))))))
 refine W.condN rfl (fun hc0 => ?_) (fun hc0 => ?_)
 ·try dsimp only at hc0
  have hcz : chkNet names (ms.map (·.L)) [f] ≠ 0 := hc0
  have hE : fmtFE names (ms.map (·.L)) f = chkNet names (ms.map (·.L)) [f] := if_pos hc0
  refine zQ (zG (zR 3 rfl (zN (zU (zT (wt ?_))))))
  refine WE.subE (E' := []) qS ?_
  refine WE.retF tab_ok [_, _] rfl ⟨rfl, rfl, trivial⟩ (by first | assumption | exact RLe.refl _ | exact hR1.trans (hR2.trans hR3)) ?_
  show Value.tuple #[_, Value.int .i64 (chkNet names (ms.map (·.L)) [f])] = _
  unfold fmtF; rw [hE, if_neg hcz]; rfl
 ·try dsimp only at hc0
  have hck : chkNet names (ms.map (·.L)) [f] = 0 := by first | exact hc0 | exact Classical.not_not.1 hc0
  have hE : fmtFE names (ms.map (·.L)) f = (formatR f.cv).2 := if_neg (fun h => h hck)
  obtain ⟨hl8, _, hnlm, hcl, hcf⟩ := chkNet_zero hck
  have hfr := (chkFs_zero _ _ hcf f (by simp)).1
  have hn12 := names_le hcl hnlm
  rw [hml] at hl8 hnlm
  have hrt := hfr.route
  have hrl := hfr.len
  have hsz := hfr.sizes
  have hcls := hfr.cls
  have hn6 : ∀ m ∈ ms.map (·.L), m.n ≤ 9999 := fun m hm => by
   obtain ⟨i, hi, rfl⟩ := List.getElem_of_mem hm
   have hz : i < (names.zip (ms.map (·.L))).length := by rw [List.length_zip]; omega
   have h5 := (chkLs_zero _ _ hcl _ (List.getElem_mem hz)).2
   rw [List.getElem_zip] at h5
   have h6 := (chk_facts h5).2.2.2.2.1
   dsimp only at h6
   omega
  have hcl6 : f.cls ≤ 9999 := by
   have h1 := hrt _ (nth_mem (show 0 < f.route.length by omega))
   have h0 : (nth f.route 0).toNat < (ms.map (·.L)).length := by omega
   have := hn6 _ (nth_mem h0)
   omega
  refine zK (zU (zQ (zG (zR 1 rfl ?_))))
  refine yL (Rd.add (Rd.blk 1 rfl) _) ?_
  refine WG.callV en36 rfl rfl qD (CallOp.mk' rfl rfl rfl rfl) (fun _ => rfl) (fun hg => Fmt03X_V hG hof.vals) ?_
  refine zR 5 rfl (zN (zU (zQ (zQ (zG (zR 2 rfl (zN (zU ?_))))))))
  refine W.condN rfl (fun hc1 => ?_) (fun hc1 => ?_)
  ·try dsimp only at hc1
   refine zQ (zG (zR 3 rfl (zN (zU (zT (wt ?_))))))
   refine WE.subE (E' := []) qS ?_
   refine WE.retF tab_ok [_, _] rfl ⟨rfl, rfl, trivial⟩ (by first | assumption | exact RLe.refl _ | exact hR1.trans (hR2.trans hR3)) ?_
   show Value.tuple #[_, _] = _
   unfold fmtF; rw [hE, if_neg hc1]; rfl
  ·try dsimp only at hc1
   have hf0 : (formatR f.cv).2 = 0 := by first | exact hc1 | exact Classical.not_not.1 hc1
   have hfe0 := hE.trans hf0
   refine zK (zU (zQ (zG (zR 1 rfl (zN (zU (zQ ?_)))))))
   refine W.nil 9 1 qD ?_
   refine zQ (zG (zR 1 rfl ?_))
   refine yL (Rd.add (Rd.blk 2 rfl) _) ?_
   refine zR 2 rfl (zN (zU (zB ?_)))
   refine W.loopK (β := Nat × List (List UInt8) × Option Addr × Nat) (fun (i, ws, a10, c10) => i ≤ f.route.length ∧ ws = ((f.route.take i).map fun l => nth names l.toNat)) (fun (i, ws, a10, c10) => [(10, true, .slice a10 ws.length c10), (37, true, .int .i64 (i : Int))]) [2, 3, 8, 35, 36] [_, _, _, _, _] [] _ rfl (fun (i, ws, a10, c10) => [(0, .sl 9 1 a10 c10 (ws.map encT))]) (fun (i, ws, a10, c10) => f.route.length - i) ((0, [], none, 0)) (⟨Nat.zero_le _, rfl⟩) ⟨rfl, rfl, rfl, rfl, rfl, rfl, rfl, rfl⟩ qS ?_
   intro zz hst
   obtain ⟨i, ws, a10, c10⟩ := zz
   dsimp only [zipE, setAll, List.cons_append, List.nil_append, List.set_cons_zero, List.set_cons_succ] at hst ⊢
   obtain ⟨hi, hws⟩ := hst
   have hwl : ws.length = i := by rw [hws, List.length_map, List.length_take]; omega
   refine zQ (zG (zR 1 rfl (zN (zU (zQ ?_)))))
   refine W.condD rfl (fun hc2 => ?_) (fun hc2 => ?_)
   ·try dsimp only at hc2
    have hil : i < f.route.length := by omega
    obtain ⟨j, hj⟩ := Int.eq_ofNat_of_zero_le (hrt _ (nth_mem hil)).1.1
    have hjn : j < names.length := by have := (hrt _ (nth_mem hil)).1.2; omega
    refine zK (zU (zQ (zB (zQ (zG ?_)))))
    refine WG.y rfl rfl qD (Yl.indexN tab_ok rfl rfl rfl rfl rfl rfl (fun _ => rfl) qN qH) ?_
    refine' WG.y rfl rfl qD (Yl.load1 tab_ok rfl rfl rfl (fun _ => rfl) ?r7 rfl ?h7) ?_
    case r7 => exact RS.rdD hof.route hil
    case h7 => rfl
    rw [hj]
    refine zR 1 rfl (zN (zU (zG (zR 2 rfl ?_))))
    refine yL (Rd.add (Rd.blk 3 rfl) _) ?_
    refine zR 1 rfl ?_
    refine WG.y rfl rfl qD (Yl.indexN tab_ok rfl rfl rfl rfl rfl rfl (fun _ => rfl) qN qH) ?_
    refine' WG.y rfl rfl qD (Yl.load1 tab_ok rfl rfl rfl (fun _ => rfl) ?r9 rfl ?h9) ?_
    case r9 => exact RS.rdD hna hjn
    case h9 => rfl
    refine WL.ef rfl rfl qD (Ef.buildSliceD (enc := encT) (parts := [.tmp 46]) [_] tab_ok rfl rfl rfl rfl rfl rfl rfl rfl qD qD (fun a47 => ?_))
    refine WL.ef rfl rfl (by decide) (Ef.appendD 1 0 tab_ok rfl rfl rfl rfl rfl rfl rfl rfl rfl rfl rfl (fun _ _ => rfl) (by simp only [List.length_cons, List.length_nil]; omega) (by simp only [List.length_cons, List.length_nil]; omega) (fun a48 c48 ha48 => ?_))
    refine zR 1 rfl (zN (zL (zU (zG ?_))))
    refine yA ?_
    refine zR 1 rfl (zN ?_)
    refine WE.again ((i + 1, ws ++ [nth names j], a48, c48)) (⟨by omega, by rw [take_nth hil, List.map_append, List.map_singleton, ← hws, hj]; rfl⟩) (by (try dsimp only); omega) ⟨rfl, rfl, rfl, rfl, rfl, rfl, rfl, rfl⟩ (RLe.refl _) qS
   ·try dsimp only at hc2
    obtain rfl : i = f.route.length := by omega
    rw [List.take_length] at hws
    have hwl2 : ws = wayL names f.route := hws
    refine zX ?_
    refine wx (wx (zY (zU ?_)))
    refine W.cap 0 rfl ?_
    intro hcap
    refine W.freeze (enc := encT) (xs := ws) 0 rfl ?_
    intro R2 hR2 hwr
    have hwy := way_le hn12 hfr
    have hfle := fl_le hn12 hfr hn6 (by omega)
    refine zQ ?_
    refine W.regionH _ (ES := [.blk b3 [.string (str f.name), .slice x1 f.route.length xc1, .int .i64 f.cls, .int .i64 f.lo, .int .i64 f.hi, .slice x2 f.cv.vals.length xc2, .int .i64 f.cv.per, .int .i64 f.cv.inc]]) mixed ?_
    refine tP 0 ?_
    refine tL 1 (Rd.add (Rd.blk 0 rfl) _) ?_
    refine tP 2 ?_
    refine tL 3 (Rd.add (Rd.blk 0 rfl) _) ?_
    refine tP 5 ?_
    refine tP 6 ?_
    refine tL 7 (Rd.add (Rd.add (Rd.blk 0 rfl) _) _) ?_
    refine tP 9 ?_
    refine tP 10 ?_
    refine tL 11 (Rd.add (Rd.add (Rd.blk 0 rfl) _) _) ?_
    refine tP 13 ?_
    refine tP 15 ?_
    refine WA.callV 4 rfl qK en38 rfl rfl qD (CallOp.mk' rfl rfl rfl rfl) (fun _ => rfl) (fun hg => Dec24z_V qO qO) qS qR ?_
    refine WA.callV 8 rfl qK en38 rfl rfl qD (CallOp.mk' rfl rfl rfl rfl) (fun _ => rfl) (fun hg => Dec24z_V qO qO) qS qR ?_
    refine WA.callV 12 rfl qK en38 rfl rfl qD (CallOp.mk' rfl rfl rfl rfl) (fun _ => rfl) (fun hg => Dec24z_V qO qO) qS qR ?_
    refine WA.callV 14 (v := .string (str (Lib.join (wayL names f.route) [62]))) rfl (by kernel_rfl) en37 rfl rfl (by decide) (CallOp.mk' rfl rfl rfl rfl) (fun _ => rfl) (fun hg => (by rw [← hwl2]; exact Join_V hwr (fun h => by rw [h] at hwl; simp at hwl; omega) (by simpa using hcap) (by omega) (by rw [hwl2]; omega))) qS (by first | exact RLe.refl _ | assumption) ?_
    refine WA.eff 16 rfl qK rfl rfl qD (Ef.buildSliceD (enc := encT) (parts := [.const (.string ⟨#[102, 108, 111, 119]⟩), .tmp 51, .tmp 54, .tmp 58, .tmp 62, .tmp 64, .tmp 65]) (flWords names f) tab_ok rfl rfl rfl rfl rfl rfl rfl rfl qD qD (fun a66 => ?_))
    refine ⟨qR, qS, ?_⟩
    refine WA.freeze (enc := encT) (xs := flWords names f) 0 rfl ?_
    intro R3 hR3 hfw
    refine WA.callV 17 (v := .string (str (Lib.join (flWords names f) [32]))) rfl qK en37 rfl rfl qD (CallOp.mk' rfl rfl rfl rfl) (fun _ => rfl) (fun hg => Join_V hfw (by unfold flWords; exact List.cons_ne_nil _ _) (Nat.le_refl _) (by show 7 ≤ _; decide) qO) qS qR ?_
    refine tP 18 ?_
    refine tP 19 ?_
    refine WA.done qK ?_
    refine zU (zT ?_)
    refine WE.subE (E' := []) qS ?_
    refine WE.retF tab_ok [_, _] rfl ⟨rfl, rfl, trivial⟩ (by first | assumption | exact RLe.refl _ | exact hR1.trans (hR2.trans hR3)) ?_
    show Value.tuple #[_, _] = _
    unfold fmtF; rw [hfe0, if_pos rfl]



theorem CopyF_C {R : Ro} {b n cap : Nat} {a : Option Addr} {S : Ent} {F : List Ent} (w0 : World) : K.Fn Tryz.prog 65 [.pointer (some ⟨b, 0, none⟩)] w0 R (S :: .obj b (.cells #[.pointer none, .slice a n cap] 75 (0, 0)) :: F) (fun v R' E' => v = .tuple #[] ∧ R = R' ∧ E' = S :: .obj b (.cells #[.pointer (some ⟨b, 0, none⟩), .slice a n cap] 75 (0, 0)) :: F) := by
 refine fE 20 Tryz.func65 ?_
 refine zQ (zG (zR 3 rfl ?_))
 refine' WG.y rfl rfl qD (Yl.load1 tab_ok rfl rfl rfl (fun _ => rfl) ?r1 rfl ?h1) ?_
 case r1 => apply Rd.add; exact Rd.obj 1 rfl
 case h1 => rfl
 refine WG.y rfl rfl qD (Yl.ptrNil tab_ok rfl rfl rfl rfl rfl (fun _ => rfl)) ?_
 refine zN (zU ?_)
 refine W.cond rfl (fun hc0 => ?_) (fun hc0 => ?_)
 ·try simp only [zk] at hc0
  refine zG (zR 2 rfl ?_)
  refine WG.y rfl rfl qD (Yl.toUnsafe 1 tab_ok rfl rfl rfl rfl rfl Tryz.underlying125 rfl rfl rfl (fun _ => rfl)) ?_
  refine WG.y rfl rfl qD (Yl.noEscape rfl Tryz.func84 qK qK qK qK rfl (fun _ => rfl)) ?_
  refine WG.y rfl rfl qD (Yl.fromUnsafe 1 tab_ok rfl rfl rfl rfl Tryz.underlying125 rfl qK rfl (fun _ => rfl)) ?_
  refine zR 2 rfl ?_
  refine WL.efN rfl rfl (Ef.storeObj (off := 0) 1 tab_ok rfl rfl rfl rfl rfl rfl rfl rfl ?_)
  refine zN ?_
  refine WE.endF tab_ok [] rfl trivial (RLe.refl _) ?_
  exact ⟨rfl, rfl, rfl⟩
 ·try simp only [zk] at hc0
  (simp at hc0; done)

theorem CopyU_C {R : Ro} {b n cap : Nat} {a : Option Addr} {S : Ent} {F : List Ent} (w0 : World) : K.Fn Tryz.prog 65 [.pointer (some ⟨b, 0, none⟩)] w0 R (S :: .obj b (.cells #[.pointer (some ⟨b, 0, none⟩), .slice a n cap] 75 (0, 0)) :: F) (fun v R' E' => v = .tuple #[] ∧ R = R' ∧ E' = S :: .obj b (.cells #[.pointer (some ⟨b, 0, none⟩), .slice a n cap] 75 (0, 0)) :: F) := by
 refine fE 20 Tryz.func65 ?_
 refine zQ (zG (zR 3 rfl ?_))
 refine' WG.y rfl rfl qD (Yl.load1 tab_ok rfl rfl rfl (fun _ => rfl) ?r1 rfl ?h1) ?_
 case r1 => apply Rd.add; exact Rd.obj 1 rfl
 case h1 => rfl
 refine WG.y rfl rfl qD (Yl.ptrNil tab_ok rfl rfl rfl rfl rfl (fun _ => rfl)) ?_
 refine zN (zU ?_)
 refine W.cond rfl (fun hc0 => ?_) (fun hc0 => ?_)
 ·try simp only [zk] at hc0
  (simp at hc0; done)
 ·try simp only [zk] at hc0
  refine zQ (zG (zR 3 rfl ?_))
  refine' WG.y rfl rfl qD (Yl.load1 tab_ok rfl rfl rfl (fun _ => rfl) ?r2 rfl ?h2) ?_
  case r2 => apply Rd.add; exact Rd.obj 1 rfl
  case h2 => rfl
  refine zR 1 rfl ?_
  refine WG.y rfl rfl qD (Yl.ptrSame tab_ok rfl rfl rfl rfl rfl rfl (fun _ => rfl)) ?_
  refine zN (zU ?_)
  refine W.cond rfl (fun hc1 => ?_) (fun hc1 => ?_)
  ·try simp only [zk] at hc1
   (simp at hc1; done)
  ·try simp only [zk] at hc1
   refine zK ?_
   refine WE.endF tab_ok [] rfl trivial (RLe.refl _) ?_
   exact ⟨rfl, rfl, rfl⟩

theorem Copy_C {R : Ro} {b n cap : Nat} {a p : Option Addr} {S : Ent} {F : List Ent} (hp : p = none ∨ p = some ⟨b, 0, none⟩) (w0 : World) : K.Fn Tryz.prog 65 [.pointer (some ⟨b, 0, none⟩)] w0 R (S :: .obj b (.cells #[.pointer p, .slice a n cap] 75 (0, 0)) :: F) (fun v R' E' => v = .tuple #[] ∧ R = R' ∧ E' = S :: .obj b (.cells #[.pointer (some ⟨b, 0, none⟩), .slice a n cap] 75 (0, 0)) :: F) := by
 rcases hp with rfl | rfl
 ·exact CopyF_C w0
 ·exact CopyU_C w0

theorem WriteString_C {R : Ro} {b cap : Nat} {a p : Option Addr} {l : List UInt8} {F : List Ent} (hp : p = none ∨ p = some ⟨b, 0, none⟩) (hl : l.length ≤ 1000000) (x : List UInt8) (hx : x.length ≤ 1000000) (w0 : World) : K.Fn Tryz.prog 33 [.pointer (some ⟨b, 0, none⟩), .string (str x)] w0 R (.sl 5 1 a cap (l.map encY) :: .obj b (.cells #[.pointer p, .slice a l.length cap] 75 (0, 0)) :: F) (fun v R' E' => ∃ (a' : Option Addr) (cap' : Nat), v = .tuple #[.int .i64 ((str x).size : Int), .nilIface] ∧ R = R' ∧ E' = .sl 5 1 a' cap' ((l ++ x).map encY) :: .obj b (.cells #[.pointer (some ⟨b, 0, none⟩), .slice a' (l ++ x).length cap'] 75 (0, 0)) :: F) := by
 refine fE 19 Tryz.func33 ?_
 refine zQ (zG (zR 2 rfl (zN (zU (zQ (zG (zR 1 rfl ?_)))))))
 refine WL.call en65 rfl rfl qD (CallOp.mkT rfl rfl rfl rfl) (Copy_C hp w0) ?_
 rintro _ _ _ - ⟨rfl, rfl, rfl⟩
 refine zN (zU (zQ (zG (zR 4 rfl ?_))))
 refine' WG.y rfl rfl qD (Yl.load1 tab_ok rfl rfl rfl (fun _ => rfl) ?r1 rfl ?h1) ?_
 case r1 => apply Rd.add; exact Rd.obj 1 rfl
 case h1 => rfl
 refine zR 1 rfl ?_
 refine WL.ef rfl rfl qD (Ef.appendStr 0 tab_ok rfl rfl rfl rfl rfl rfl qK rfl rfl rfl rfl rfl rfl qO (fun a14 c14 => ?_))
 refine zR 2 rfl ?_
 refine WL.efN rfl rfl (Ef.storeObj (off := 1) 1 tab_ok rfl rfl rfl rfl rfl rfl rfl rfl ?_)
 refine zN (zU (zQ (zG (zR 4 rfl (zN (zU (zT ?_)))))))
 refine WE.retF tab_ok [_, _] rfl ⟨rfl, rfl, trivial⟩ (RLe.refl _) ?_
 exact ⟨a14, c14, rfl, rfl, rfl⟩



theorem BString_C {R : Ro} {b cap : Nat} {a p : Option Addr} {l : List UInt8} (hp : p = none ∨ p = some ⟨b, 0, none⟩) (w0 : World) (hR : RBelow w0 R) : K.Fn Tryz.prog 35 [.pointer (some ⟨b, 0, none⟩)] w0 R [.sl 5 1 a cap (l.map encY), .obj b (.cells #[.pointer p, .slice a l.length cap] 75 (0, 0))] (fun v R' E' => v = .string (str l) ∧ R = R' ∧ E' = []) := by
 intro w hm
 obtain ⟨hb0, hb1⟩ := hm.own _ (show .obj b (.cells #[.pointer p, .slice a l.length cap] 75 (0, 0)) ∈ _ by simp)
 obtain ⟨_, _, hs2⟩ := hm.own _ (show .sl 5 1 a cap (l.map encY) ∈ _ by simp)
 rw [encY_flat, List.length_map] at hs2
 have hne : (Value.slice a l.length cap).ownBlock ≠ some b := fun h => by
  have hnd := hm.nodup
  rw [List.pairwise_cons] at hnd
  have := hnd.1 _ (List.mem_singleton.2 rfl) b (by cases a with
   | none => simp [Value.ownBlock] at h
   | some ad => simpa [Value.ownBlock, Ent.block] using h)
  exact this rfl
 have hB : Lib.BuilderAt 75 5 w0.heap.size b (.pointer p) (Lib.byteCells l) w := ⟨hb0, _, hb1, by rw [Lib.byteCells_length]; exact hs2, hne⟩
 have hIs : Lib.IsBuilder 75 5 w0.heap.size b (Lib.byteCells l) w := by
  rcases hp with rfl | rfl
  ·exact .inl hB
  ·exact .inr hB
 refine (sh_Builder_String_any w0.heap.size b l w hIs hm.below.size).mono ?_
 rintro e w' ⟨rfl, hbl⟩
 refine ⟨_, R, [], rfl, RLe.refl _, ⟨hm.below.trans hbl, fun b' cs hr => ?_, fun e he => (by cases he), fun e he => (by cases he), List.Pairwise.nil⟩, rfl, rfl, rfl⟩
 obtain ⟨T, fz, h1⟩ := hm.ro b' cs hr
 exact ⟨T, fz, by rw [hbl.block b' (hR b' cs hr)]; exact h1⟩

theorem BLen_C {R : Ro} {b cap : Nat} {a p : Option Addr} {l : List UInt8} {F : List Ent} (w0 : World) : K.Fn Tryz.prog 34 [.pointer (some ⟨b, 0, none⟩)] w0 R (.sl 5 1 a cap (l.map encY) :: .obj b (.cells #[.pointer p, .slice a l.length cap] 75 (0, 0)) :: F) (fun v R' E' => v = .int .i64 (l.length : Int) ∧ R = R' ∧ E' = .sl 5 1 a cap (l.map encY) :: .obj b (.cells #[.pointer p, .slice a l.length cap] 75 (0, 0)) :: F) := by
 refine fE 8 Tryz.func34 ?_
 refine zQ (zG (zR 1 rfl (zN (zU (zQ (zG (zR 3 rfl ?_)))))))
 refine' WG.y rfl rfl qD (Yl.load1 tab_ok rfl rfl rfl (fun _ => rfl) ?r1 rfl ?h1) ?_
 case r1 => apply Rd.add; exact Rd.obj 1 rfl
 case h1 => rfl
 refine zR 2 rfl (zN (zU (zT ?_)))
 refine WE.retF tab_ok [_] rfl ⟨rfl, trivial⟩ (RLe.refl _) ?_
 exact ⟨rfl, rfl, rfl⟩



set_option maxHeartbeats 4000000 in
theorem FmtN_V {R : Ro} (hG : GlobE R) {na la fa : Option Addr} {nc lc fc : Nat} {names : List (List UInt8)} {ms : List LnM} {fs : List FlM} (hna : K.RS R 1 encT na names) (hla : K.RS R 5 encLn la ms) (hfa : K.RS R 8 encFl fa fs) (hok : ∀ m ∈ ms, OkLn R m) (hof : ∀ m ∈ fs, OkFl R m) (hnl : ∀ x ∈ names, x.length ≤ 9223372036854775807) : FnV Tryz.prog 12 [.agg #[.slice na names.length nc, .slice la ms.length lc, .slice fa fs.length fc]] R (.tuple #[.string (str (fmtN names (ms.map (·.L)) (fs.map (·.f))).1), .int .i64 (fmtN names (ms.map (·.L)) (fs.map (·.f))).2]) := by
 refine FnV.ofOwn (fun w0 hb0 => ?_)
 have hll := hla.len
 have hfll := hfa.len
 have hml : (ms.map (·.L)).length = ms.length := List.length_map ..
 have hfml : (fs.map (·.f)).length = fs.length := List.length_map ..
 refine fE 67 Tryz.func12 ?_
 refine zQ (zG ?_)
 refine zO fun b1 => ?_
 refine zR 2 rfl (zN (zU (zQ (zQ (zG ?_)))))
 refine yL (Rd.blk 0 rfl) ?_
 refine WG.callV en32 rfl rfl qD (CallOp.mk' rfl rfl rfl rfl) (fun _ => rfl) (fun hg => NCheck_V hna hla hfa hok hof hnl) ?_
 refine zR 1 rfl (zN (zU (zQ (zG (zR 2 rfl (zN (zU ?_)))))))
 refine W.condN rfl (fun hc0 => ?_) (fun hc0 => ?_)
 ·try dsimp only at hc0
  have hc : chkNet names (ms.map (·.L)) (fs.map (·.f)) ≠ 0 := hc0
  refine zQ (zG (zR 3 rfl (zN (zU (zT (wt ?_))))))
  refine WE.subE (E' := []) qS ?_
  refine WE.retF tab_ok [_, _] rfl ⟨rfl, rfl, trivial⟩ (by first | assumption | exact RLe.refl _) ?_
  show Value.tuple #[_, _] = _
  unfold fmtN; rw [if_pos hc]; rfl
 ·try dsimp only at hc0
  have hck : chkNet names (ms.map (·.L)) (fs.map (·.f)) = 0 := by first | exact hc0 | exact Classical.not_not.1 hc0
  obtain ⟨hlr, hfl10, hnlm, hcl, hcf⟩ := chkNet_zero hck
  have hall := chkLs_zero _ _ hcl
  rw [hml] at hlr hnlm
  rw [hfml] at hfl10
  refine zK (zU (zQ (zG ?_)))
  refine WL.ef rfl rfl qD (Ef.allocObj tab_ok rfl rfl (fun b5 => ?_))
  refine WL.nilE 5 1 qD ?_
  refine zN (zU (zQ (zQ (zG (zR 1 rfl ?_)))))
  refine yL (Rd.add (Rd.blk 2 rfl) _) ?_
  refine zR 2 rfl (zN (zU (zB ?_)))
  refine W.loopK (β := Nat × List UInt8 × Option Addr × Nat × Option Addr) (fun (i, m, a, k, p) => i ≤ ms.length ∧ m = rowsT (((names.zip (ms.map (·.L))).take i).map rowX) ∧ fmtErr ((names.zip (ms.map (·.L))).drop i) = fmtErr (names.zip (ms.map (·.L))) ∧ m.length ≤ 6007 * i ∧ (p = none ∨ p = some ⟨b5, 0, none⟩)) (fun (i, m, a, k, p) => [(22, true, .int .i64 (i : Int))]) [1, 5, 20, 21] [_, _, _, _] [] _ rfl (fun (i, m, a, k, p) => [(0, .sl 5 1 a k (m.map encY)), (1, .obj b5 (.cells #[.pointer p, .slice a m.length k] 75 (0, 0)))]) (fun (i, m, a, k, p) => ms.length - i) ((0, [], none, 0, none)) (⟨Nat.zero_le _, rfl, rfl, Nat.le_refl _, .inl rfl⟩) ⟨rfl, rfl, rfl, rfl, rfl, rfl⟩ qS ?_
  intro zz hst
  obtain ⟨i, m, a, k, p⟩ := zz
  dsimp only [zipE, setAll, List.cons_append, List.nil_append, List.set_cons_zero, List.set_cons_succ] at hst ⊢
  obtain ⟨hi, hm, hfe, hmb, hp⟩ := hst
  refine zQ (zG (zR 1 rfl (zN (zU (zQ ?_)))))
  refine W.condD rfl (fun hc1 => ?_) (fun hc1 => ?_)
  ·try dsimp only at hc1
   have him : i < ms.length := by omega
   have hin : i < names.length := by omega
   have hzl : (names.zip (ms.map (·.L))).length = ms.length := by rw [List.length_zip, hml]; omega
   have hdr : (names.zip (ms.map (·.L))).drop i = (nth names i, (nth ms i).L) :: (names.zip (ms.map (·.L))).drop (i + 1) := by
    have hl : i < (names.zip (ms.map (·.L))).length := by omega
    rw [List.drop_eq_getElem_cons hl, List.getElem_zip, nth_eq hin, nth_eq him, List.getElem_map]
   have hzi : nth (names.zip (ms.map (·.L))) i = (nth names i, (nth ms i).L) := by
    rw [nth_eq (by omega), List.getElem_zip, nth_eq hin, nth_eq him, List.getElem_map]
   have hwn : wordB (nth names i) = true ∧ chkL (nth ms i).L = 0 := by
    have := hall (nth (names.zip (ms.map (·.L))) i) (nth_mem (by omega))
    rw [hzi] at this; exact this
   have hw12 : (nth names i).length ≤ 12 := (of_decide_eq_true hwn.1).2.1
   have hfl := fmtL_le (nth names i) (nth ms i).L
   rw [hdr, fmtErr] at hfe
   dsimp only at hfe
   refine zK (zU (zQ (zB (zQ (zG (zR 1 rfl ?_))))))
   refine WG.y rfl rfl qD (Yl.indexN tab_ok rfl rfl rfl rfl rfl rfl (fun _ => rfl) qN qH) ?_
   refine' WG.y rfl rfl qD (Yl.load1 tab_ok rfl rfl rfl (fun _ => rfl) ?r3 rfl ?h3) ?_
   case r3 => exact RS.rdD hla him
   case h3 => rfl
   refine zA fun b7 => ?_
   refine zR 1 rfl ?_
   refine zE 0 ?_
   refine zN (zU (zQ ?_))
   refine W.regionQ _ mixed qK ?_
   refine zR 1 rfl ?_
   refine yL (Rd.add (Rd.blk 3 rfl) _) ?_
   refine zR 1 rfl ?_
   refine WG.y rfl rfl qD (Yl.indexN tab_ok rfl rfl rfl rfl rfl rfl (fun _ => rfl) qN qH) ?_
   refine' WG.y rfl rfl qD (Yl.load1 tab_ok rfl rfl rfl (fun _ => rfl) ?r5 rfl ?h5) ?_
   case r5 => exact RS.rdD hna hin
   case h5 => rfl
   refine yL (Rd.blk 0 rfl) ?_
   refine WG.callV en15 rfl rfl qD (CallOp.mk' rfl rfl rfl rfl) (fun _ => rfl) (fun hg => FmtL_V (L := (nth ms i).L) (name := nth names i) (hok _ (nth_mem him)).1 (hok _ (nth_mem him)).2 qO) ?_
   refine zR 5 rfl (zN (zU (zQ (zQ (zG (zR 2 rfl (zN (zU ?_))))))))
   refine W.condN rfl (fun hc2 => ?_) (fun hc2 => ?_)
   ·try dsimp only at hc2
    rw [if_pos hc2] at hfe
    refine zQ (zG (zR 3 rfl (zN (zU (zT (wt (wb (wt (wt (wb (wt ?_)))))))))))
    refine WE.subE (E' := []) qS ?_
    refine WE.retF tab_ok [_, _] rfl ⟨rfl, rfl, trivial⟩ (by first | assumption | exact RLe.refl _) ?_
    show Value.tuple #[_, _] = _
    unfold fmtN; rw [if_neg (fun h => h hck), ← hfe, if_pos hc2]; rfl
   ·try dsimp only at hc2
    have he0 : fmtE (nth names i) (nth ms i).L = 0 := by first | exact hc2 | exact Classical.not_not.1 hc2
    rw [if_neg (fun h => h he0)] at hfe
    refine W.dropE (E' := [.sl 5 1 a k (m.map encY), .obj b5 (.cells #[.pointer p, .slice a m.length k] 75 (0, 0)), .blk b1 [.slice na names.length nc, .slice la ms.length lc, .slice fa fs.length fc]]) qS ?_
    refine zK (zU (zG (zR 1 rfl ?_)))
    refine WG.y rfl rfl (by decide) (Yl.catS rfl rfl rfl (fun _ => rfl) (by intro _; (simp only [List.length_cons, List.length_nil]; omega))) ?_
    refine WL.call en33 rfl rfl (by decide) (CallOp.mkT rfl rfl rfl rfl) (WriteString_C (l := m) (b := b5) hp (by omega) (fmtL (nth names i) (nth ms i).L ++ [10]) (by rw [List.length_append]; show _ + 1 ≤ _; omega) w0) ?_
    rintro _ _ _ - ⟨a9, k9, rfl, rfl, rfl⟩
    refine zN (zL (zU (zG ?_)))
    refine yA ?_
    refine zR 1 rfl (zN ?_)
    refine WE.again ((i + 1, m ++ (fmtL (nth names i) (nth ms i).L ++ [10]), a9, k9, some ⟨b5, 0, none⟩)) (⟨by omega, by rw [take_nth (by omega), List.map_append, List.map_singleton, rowsT_snoc, ← hm, hzi]; rfl, hfe, by simp only [List.length_append, List.length_cons, List.length_nil]; omega, .inr rfl⟩) (by (try dsimp only); omega) ⟨rfl, rfl, rfl, rfl, rfl, rfl⟩ (RLe.refl _) qS
  ·try dsimp only at hc1
   obtain rfl : i = ms.length := by omega
   have hzl : (names.zip (ms.map (·.L))).length = ms.length := by rw [List.length_zip, hml]; omega
   rw [List.drop_of_length_le (by omega)] at hfe
   rw [List.take_of_length_le (by omega)] at hm
   have hfz : fmtErr (names.zip (ms.map (·.L))) = 0 := hfe.symm
   have hmm : m = rowsT ((names.zip (ms.map (·.L))).map rowX) := hm
   refine zX ?_
   refine wx (wx (zY (zU (zQ (zQ (zG (zR 1 rfl ?_)))))))
   refine yL (Rd.add (Rd.blk 2 rfl) _) ?_
   refine zR 2 rfl (zN (zU (zB ?_)))
   refine W.loopK (β := Nat × List UInt8 × Option Addr × Nat × Option Addr) (fun (i, m, a, k, p) => i ≤ fs.length ∧ m = rowsT ((names.zip (ms.map (·.L))).map rowX) ++ rowsT (((fs.map (·.f)).take i).map (fmtF names (ms.map (·.L)))) ∧ flErr names (ms.map (·.L)) ((fs.map (·.f)).drop i) = flErr names (ms.map (·.L)) (fs.map (·.f)) ∧ m.length ≤ 6007 * ms.length + 28008 * i ∧ (p = none ∨ p = some ⟨b5, 0, none⟩)) (fun (i, m, a, k, p) => [(47, true, .int .i64 (i : Int))]) [1, 5, 45, 46] [_, _, _, _] [] _ rfl (fun (i, m, a, k, p) => [(0, .sl 5 1 a k (m.map encY)), (1, .obj b5 (.cells #[.pointer p, .slice a m.length k] 75 (0, 0)))]) (fun (i, m, a, k, p) => fs.length - i) ((0, m, a, k, p)) (⟨Nat.zero_le _, by rw [List.take_zero]; show m = _ ++ []; rw [List.append_nil]; exact hmm, rfl, by omega, hp⟩) ⟨rfl, rfl, rfl, rfl, rfl, rfl⟩ qS ?_
   intro zz hst
   obtain ⟨i, m, a, k, p⟩ := zz
   dsimp only [zipE, setAll, List.cons_append, List.nil_append, List.set_cons_zero, List.set_cons_succ] at hst ⊢
   obtain ⟨hi, hm, hle, hmb, hp⟩ := hst
   refine zQ (zG (zR 1 rfl (zN (zU (zQ ?_)))))
   refine W.condD rfl (fun hc3 => ?_) (fun hc3 => ?_)
   ·try dsimp only at hc3
    have hif : i < fs.length := by omega
    have hdr : (fs.map (·.f)).drop i = (nth fs i).f :: (fs.map (·.f)).drop (i + 1) := by
     have hl : i < (fs.map (·.f)).length := by omega
     rw [List.drop_eq_getElem_cons hl, List.getElem_map, nth_eq hif]
    have hfi : nth (fs.map (·.f)) i = (nth fs i).f := by
     rw [nth_eq (by omega), List.getElem_map, nth_eq hif]
    have hfle := fmtF_le names (ms.map (·.L)) (nth fs i).f
    rw [hdr, flErr] at hle
    refine zK (zU (zQ (zB (zQ (zG ?_)))))
    refine WG.y rfl rfl qD (Yl.indexN tab_ok rfl rfl rfl rfl rfl rfl (fun _ => rfl) qN qH) ?_
    refine' WG.y rfl rfl qD (Yl.load1 tab_ok rfl rfl rfl (fun _ => rfl) ?r8 rfl ?h8) ?_
    case r8 => exact RS.rdD hfa hif
    case h8 => rfl
    refine zA fun b11 => ?_
    refine zE 0 ?_
    refine zN (zU (zQ (zG ?_)))
    refine yL (Rd.blk 3 rfl) ?_
    refine yL (Rd.blk 0 rfl) ?_
    refine WG.callV en13 rfl rfl qD (CallOp.mk' rfl rfl rfl rfl) (fun _ => rfl) (fun hg => FmtFl_V (f := (nth fs i).f) hG hna hla hok (hof _ (nth_mem hif)) hnl) ?_
    refine zR 5 rfl (zN (zU (zQ (zQ (zG (zR 2 rfl (zN (zU ?_))))))))
    refine W.condN rfl (fun hc4 => ?_) (fun hc4 => ?_)
    ·try dsimp only at hc4
     rw [if_pos hc4] at hle
     refine zQ (zG (zR 3 rfl (zN (zU (zT (wt (wb (wt (wt (wb (wt ?_)))))))))))
     refine WE.subE (E' := []) qS ?_
     refine WE.retF tab_ok [_, _] rfl ⟨rfl, rfl, trivial⟩ (by first | assumption | exact RLe.refl _) ?_
     show Value.tuple #[_, _] = _
     unfold fmtN; rw [if_neg (fun h => h hck), if_neg (fun h => h hfz), ← hle, if_pos hc4]; rfl
    ·try dsimp only at hc4
     have hg0 : fmtFE names (ms.map (·.L)) (nth fs i).f = 0 := by first | exact hc4 | exact Classical.not_not.1 hc4
     rw [if_neg (fun h => h hg0)] at hle
     refine W.dropE (E' := [.sl 5 1 a k (m.map encY), .obj b5 (.cells #[.pointer p, .slice a m.length k] 75 (0, 0)), .blk b1 [.slice na names.length nc, .slice la ms.length lc, .slice fa fs.length fc]]) qS ?_
     refine zK (zU (zG (zR 1 rfl ?_)))
     refine WG.y rfl rfl (by decide) (Yl.catS rfl rfl rfl (fun _ => rfl) (by intro _; (simp only [List.length_cons, List.length_nil]; omega))) ?_
     refine WL.call en33 rfl rfl (by decide) (CallOp.mkT rfl rfl rfl rfl) (WriteString_C (l := m) (b := b5) hp (by omega) (fmtF names (ms.map (·.L)) (nth fs i).f ++ [10]) (by rw [List.length_append]; show _ + 1 ≤ _; omega) w0) ?_
     rintro _ _ _ - ⟨a9, k9, rfl, rfl, rfl⟩
     refine zN (zL (zU (zG ?_)))
     refine yA ?_
     refine zR 1 rfl (zN ?_)
     refine WE.again ((i + 1, m ++ (fmtF names (ms.map (·.L)) (nth fs i).f ++ [10]), a9, k9, some ⟨b5, 0, none⟩)) (⟨by omega, by show m ++ _ = _; rw [take_nth (by omega), List.map_append, List.map_singleton, rowsT_snoc, hfi, hm, List.append_assoc], hle, by simp only [List.length_append, List.length_cons, List.length_nil]; omega, .inr rfl⟩) (by (try dsimp only); omega) ⟨rfl, rfl, rfl, rfl, rfl, rfl⟩ (RLe.refl _) qS
   ·try dsimp only at hc3
    obtain rfl : i = fs.length := by omega
    rw [List.drop_of_length_le (by omega)] at hle
    rw [List.take_of_length_le (by omega)] at hm
    have hlz : flErr names (ms.map (·.L)) (fs.map (·.f)) = 0 := hle.symm
    have hmt : m = textN names (ms.map (·.L)) (fs.map (·.f)) := hm
    refine zX ?_
    refine wx (wx (zY (zU (zQ ?_))))
    refine W.dropE (E' := [.sl 5 1 a k (m.map encY), .obj b5 (.cells #[.pointer p, .slice a m.length k] 75 (0, 0))]) qS ?_
    refine zQ (zG ?_)
    refine WL.call en34 rfl rfl qD (CallOp.mkT rfl rfl rfl rfl) (BLen_C (l := m) (b := b5) w0) ?_
    rintro _ _ _ - ⟨rfl, rfl, rfl⟩
    refine zR 1 rfl (zN (zU ?_))
    refine W.condD rfl (fun hc5 => ?_) (fun hc5 => ?_)
    ·try dsimp only at hc5
     refine zQ (zG (zR 2 rfl (zN (zU (zT (wt ?_))))))
     refine WE.subE (E' := []) qS ?_
     refine WE.retF tab_ok [_, _] rfl ⟨rfl, rfl, trivial⟩ (by first | assumption | exact RLe.refl _) ?_
     show Value.tuple #[_, _] = _
     unfold fmtN; rw [if_neg (fun h => h hck), if_neg (fun h => h hfz), if_neg (fun h => h hlz), ← hmt, if_pos (by omega)]; rfl
    ·try dsimp only at hc5
     refine zK (zU (zQ (zG ?_)))
     refine WL.call en35 rfl rfl qD (CallOp.mkT rfl rfl rfl rfl) (BString_C (l := m) (b := b5) hp w0 hb0) ?_
     rintro _ _ _ - ⟨rfl, rfl, rfl⟩
     refine zR 2 rfl (zN (zU (zT ?_)))
     refine WE.subE (E' := []) qS ?_
     refine WE.retF tab_ok [_, _] rfl ⟨rfl, rfl, trivial⟩ (by first | assumption | exact RLe.refl _) ?_
     show Value.tuple #[_, _] = _
     unfold fmtN; rw [if_neg (fun h => h hck), if_neg (fun h => h hfz), if_neg (fun h => h hlz), ← hmt, if_neg (by omega)]



theorem Split_C {R : Ro} (hG : GlobE R) {s : List UInt8} {d : UInt8} (hs : s.length ≤ 4000000000) (w0 : World) (E : List Ent) : K.Fn Tryz.prog 88 [.string (str s), .string (str [d])] w0 R E (fun v R' E' => ∃ a : Addr, v = .slice (some a) (splC d s).length (splC d s).length ∧ RS R' 1 encT (some a) (splC d s) ∧ E = E') := by
 obtain ⟨m, rest, hm0⟩ := hG.m
 intro w hm
 have hsz := str_size s
 obtain ⟨g1, g2⟩ := split_splC d s.length s (Nat.le_refl _)
 have hls : (str s).data.toList = s := by simp [str]
 have hld : (str [d]).data.toList = [d] := by simp [str]
 have hcb : Lib.countB (str s) (str [d]) + 1 = (splC d s).length := by
  show Lib.count _ _ + 1 = _
  rw [hls, hld]; exact g2
 have hsp : (Lib.splitB (str [d]) 0 (Lib.countB (str s) (str [d])) (str s)).map Value.string = ((splC d s).map encT).flatten := by
  have h1 := Lib.splitB_data (str [d]) 0 (Lib.countB (str s) (str [d])) (str s)
  have h2 : Lib.splitB (str [d]) 0 (Lib.countB (str s) (str [d])) (str s) = (splC d s).map str := by
   have h3 : (Lib.splitB (str [d]) 0 (Lib.countB (str s) (str [d])) (str s)) = ((Lib.splitB (str [d]) 0 (Lib.countB (str s) (str [d])) (str s)).map (·.data.toList)).map str := by
    rw [List.map_map]
    refine (List.map_id'' (fun x => ?_) _).symm
    exact (str_of x).symm
   rw [h3, h1]
   show (Lib.splitK _ _ (Lib.count _ _) _).map str = _
   rw [hls, hld, g1]
  rw [h2, List.map_map]
  generalize splC d s = l
  induction l with
  | nil => rfl
  | cons x l ih => simp only [List.map_cons, List.flatten_cons, ih]; rfl
 refine (sh_strings_Split (str s) (str [d]) m w (by omega) (hm.cell hm0) (by rw [str_size]; exact Nat.le_refl 1)).mono ?_
 rintro e w' ⟨rfl, rfl⟩
 rw [hcb, hsp]
 have hlen := splC_len d s
 have hfl : ((splC d s).map encT).flatten.length = (splC d s).length := by
  generalize splC d s = l
  induction l with
  | nil => rfl
  | cons x l ih => simp only [List.map_cons, List.flatten_cons, List.length_append, ih, List.length_cons]; show 1 + _ = _; omega
 have hmn : Mem w0 (w.alloc (.cells ((splC d s).map encT).flatten.toArray 9)) R (.sl 9 1 (some ⟨w.heap.size, 0, none⟩) (splC d s).length ((splC d s).map encT) :: E) := by
  refine hm.new (e' := .sl 9 1 (some ⟨w.heap.size, 0, none⟩) (splC d s).length ((splC d s).map encT)) ⟨rfl, rfl, rfl, by simp, fun j hj _ => heap_alloc_old w _ hj⟩ ?_ (fun b hb => by simp [Ent.block] at hb; omega)
  refine ⟨fun r hr => by obtain ⟨c, _, rfl⟩ := List.mem_map.1 hr; rfl, Nat.one_pos, ?_, ?_⟩
  ·rw [hfl, List.length_map]; omega
  ·right
   refine ⟨w.heap.size, _, _, by rw [List.length_map], hm.below.size, heap_alloc_new w _, by rw [List.length_map]; exact Nat.le_refl _, by unfold maxLen; omega, by simp only [List.size_toArray]; rw [hfl]; omega, ?_⟩
   rw [List.length_map]; exact List.take_of_length_le (by show ((splC d s).map encT).flatten.length ≤ _; rw [hfl]; omega)
 obtain ⟨R2, k1, k2, k3⟩ := hmn.freeze (i := 0) (enc := encT) (xs := splC d s) rfl
 exact ⟨_, R2, E, rfl, k1, k3, ⟨w.heap.size, 0, none⟩, rfl, k2, rfl⟩



set_option maxHeartbeats 1000000 in
theorem NumsG_C {R : Ro} (hG : GlobE R) {s : List UInt8} {fr : Bool} (hs : s.length ≤ 1000000) (w0 : World) (E : List Ent) : K.Fn Tryz.prog 90 [.string (str s), .bool fr] w0 R E (fun v R' E' => ∃ (a : Option Addr) (c : Nat), v = .tuple #[.slice a (numsL fr s).length c, .bool (numsO fr s)] ∧ RS R' 1 encI a (numsL fr s) ∧ (numsL fr s).length ≤ c ∧ E' = E) := by
 
 refine fE 36 Tryz.func90 ?_
 refine zQ (zG (zR 2 rfl (zN (zU (zQ (zG (zR 1 rfl (zN (zU (zQ ?_))))))))))
 refine W.nil 3 1 qD ?_
 refine zQ (zG (zR 1 rfl ?_))
 refine WL.call en88 rfl rfl qD (CallOp.mkT rfl rfl rfl rfl) (Split_C hG (s := s) (d := 44) qO w0 _) ?_
 rintro _ R1 _ hR1 ⟨a12, rfl, hws, rfl⟩
 have hRR := hR1
 have hG := hG.mono hR1
 have hwl := splC_len 44 s
 have hwm := splC_mem 44 s
 generalize hwg : splC 44 s = ws at hws hwl hwm ⊢
 refine zR 2 rfl (zN (zU (zB ?_)))
 refine W.loopK (β := Nat × List Int × Option Addr × Nat) (fun (i, xs, a6, c6) => i ≤ ws.length ∧ xs.length = i ∧ (ws.take i).all (okN9 fr) = true ∧ xs = (ws.take i).map (valN9 fr)) (fun (i, xs, a6, c6) => [(6, true, .slice a6 xs.length c6), (14, true, .int .i64 (i : Int))]) [1, 12, 13] [_, _, _] [] _ rfl (fun (i, xs, a6, c6) => [(0, .sl 3 1 a6 c6 (xs.map encI))]) (fun (i, xs, a6, c6) => ws.length - i) ((0, [], none, 0)) (⟨Nat.zero_le _, rfl, rfl, rfl⟩) ⟨rfl, rfl, rfl, rfl, rfl, rfl⟩ qS ?_
 intro zz hst
 obtain ⟨i, xs, a6, c6⟩ := zz
 dsimp only [zipE, setAll, List.cons_append, List.nil_append, List.set_cons_zero, List.set_cons_succ] at hst ⊢
 obtain ⟨hi, hxl, hal, hxv⟩ := hst
 refine zQ (zG (zR 1 rfl (zN (zU (zQ ?_)))))
 refine W.condD rfl (fun hc0 => ?_) (fun hc0 => ?_)
 ·try dsimp only at hc0
  have hil : i < ws.length := by omega
  have hwi := hwm _ (nth_mem hil)
  refine zK (zU (zQ (zB (zQ (zG ?_)))))
  refine WG.y rfl rfl qD (Yl.indexN tab_ok rfl rfl rfl rfl rfl rfl (fun _ => rfl) qN qH) ?_
  refine yR ?_
  refine zR 1 rfl (zN (zU (zQ (zG (zR 1 rfl ?_)))))
  refine WG.callV en89 rfl rfl qD (CallOp.mk' rfl rfl rfl rfl) (fun _ => rfl) (fun hg => Number9_V (w := nth ws i) qO) ?_
  refine zR 5 rfl (zN (zU (zQ (zQ (zG (zR 2 rfl ?_))))))
  refine yP ?_
  refine WG.y rfl rfl qD (Yl.eqS rfl rfl rfl qE) ?_
  refine yN ?_
  refine zN (zU ?_)
  refine W.cond rfl (fun hc1 => ?_) (fun hc1 => ?_)
  ·try simp only [zk] at hc1
   have h45 : (fr && decide (nth ws i = [45])) = true := by rw [Bool.and_eq_true, decide_eq_true_eq]; exact ⟨hc1.1, str_inj (b := [45]) hc1.2⟩
   refine zG (zR 2 rfl (zN (zU (zQ (zQ (zG (zR 2 rfl (zN (zU ?_)))))))))
   refine W.cond rfl (fun hc2 => ?_) (fun hc2 => ?_)
   ·try simp only [zk] at hc2
    refine zQ (zG (zR 2 rfl (zN (zU (zT (wt (wb (wt (wt (wb (wt ?_)))))))))))
    refine sE (E := E) ?_
    refine WE.retF tab_ok [_, _] rfl ⟨rfl, rfl, trivial⟩ (hRR) ?_
    exact absurd hc2 (by simp)
   ·try simp only [zk] at hc2
    refine zK (zU (zG (zR 2 rfl ?_)))
    refine WL.ef rfl rfl qD (Ef.buildSliceD (enc := encI) (parts := [.tmp 31]) [_] tab_ok rfl rfl rfl rfl rfl rfl rfl rfl qD qD (fun a32 => ?_))
    refine WL.ef rfl rfl (by decide) (Ef.appendD 1 0 tab_ok rfl rfl rfl rfl rfl rfl rfl rfl rfl rfl rfl (fun _ _ => rfl) (by simp only [List.length_cons, List.length_nil]; omega) (by simp only [List.length_cons, List.length_nil]; omega) (fun a33 c33 ha33 => ?_))
    refine zR 1 rfl (zN (zL (zU (zG ?_))))
    refine yA ?_
    refine zR 1 rfl (zN ?_)
    refine WE.again ((i + 1, xs ++ [-1], a33, c33)) (⟨by omega, by rw [List.length_append, hxl]; rfl, by
     show (ws.take (i + 1)).all _ = true
     rw [take_nth hil, List.all_append, hal, List.all_cons, List.all_nil]
     unfold okN9
     rw [h45]; rfl, by
     show _ = (ws.take (i + 1)).map _
     rw [take_nth hil, List.map_append, List.map_singleton, ← hxv, show valN9 fr (nth ws i) = -1 from if_pos h45]⟩) (by (try dsimp only); omega) ⟨rfl, rfl, rfl, rfl, rfl, rfl⟩ (RLe.refl _) qS
  ·try simp only [zk] at hc1
   have h45 : (fr && decide (nth ws i = [45])) = false := by
    rw [Bool.and_eq_false_iff, decide_eq_false_iff_not]
    cases hf : fr with
    | false => left; rfl
    | true => right; intro h; rw [h] at hc1; first | exact hc1 ⟨hf, rfl⟩ | exact hc1 hf rfl
   refine zK (zU (zQ (zQ (zG (zR 2 rfl (zN (zU ?_)))))))
   refine W.cond rfl (fun hc3 => ?_) (fun hc3 => ?_)
   ·try simp only [zk] at hc3
    have h9 : num9 (nth ws i) = false := by simpa using hc3
    have hno : numsO fr s = false := by
     unfold numsO
     rw [hwg, List.all_eq_false]
     exact ⟨_, nth_mem hil, by unfold okN9; rw [h45, h9]; decide⟩
    refine zQ (zG (zR 2 rfl (zN (zU (zT (wt (wb (wt (wt (wb (wt ?_)))))))))))
    refine sE (E := E) ?_
    refine WE.retF tab_ok [_, _] rfl ⟨rfl, rfl, trivial⟩ (hRR) ?_
    have hL : numsL fr s = [] := if_neg (by rw [hno]; decide)
    exact ⟨none, 0, by rw [hno, hL]; rfl, by rw [hL]; exact ⟨by simp, .inl rfl, by simp⟩, by rw [hL]; exact Nat.le_refl _, rfl⟩
   ·try simp only [zk] at hc3
    have h9 : num9 (nth ws i) = true := by simpa using hc3
    refine zK (zU (zG (zR 2 rfl ?_)))
    refine WL.ef rfl rfl qD (Ef.buildSliceD (enc := encI) (parts := [.tmp 31]) [_] tab_ok rfl rfl rfl rfl rfl rfl rfl rfl qD qD (fun a32 => ?_))
    refine WL.ef rfl rfl (by decide) (Ef.appendD 1 0 tab_ok rfl rfl rfl rfl rfl rfl rfl rfl rfl rfl rfl (fun _ _ => rfl) (by simp only [List.length_cons, List.length_nil]; omega) (by simp only [List.length_cons, List.length_nil]; omega) (fun a33 c33 ha33 => ?_))
    refine zR 1 rfl (zN (zL (zU (zG ?_))))
    refine yA ?_
    refine zR 1 rfl (zN ?_)
    refine WE.again ((i + 1, xs ++ [(num9V (nth ws i) : Int)], a33, c33)) (⟨by omega, by rw [List.length_append, hxl]; rfl, by
     show (ws.take (i + 1)).all _ = true
     rw [take_nth hil, List.all_append, hal, List.all_cons, List.all_nil]
     unfold okN9
     rw [h45, h9]; rfl, by
     show _ = (ws.take (i + 1)).map _
     rw [take_nth hil, List.map_append, List.map_singleton, ← hxv, show valN9 fr (nth ws i) = (num9V (nth ws i) : Int) from if_neg (by rw [h45]; decide)]⟩) (by (try dsimp only); omega) ⟨rfl, rfl, rfl, rfl, rfl, rfl⟩ (RLe.refl _) qS
 ·try dsimp only at hc0
  obtain rfl : i = ws.length := by omega
  refine zX ?_
  refine wx (wx (zY (zU ?_)))
  refine W.cap 0 rfl ?_
  intro hcl
  refine W.freeze (enc := encI) (xs := xs) 0 rfl ?_
  intro R2 hR2 hxs
  have hRR := hR1.trans hR2
  refine zQ (zG (zR 3 rfl (zN (zU (zT ?_)))))
  refine sE (E := E) ?_
  refine WE.retF tab_ok [_, _] rfl ⟨rfl, rfl, trivial⟩ (hRR) ?_
  rw [List.take_length] at hal hxv
  have hyes : numsO fr s = true := by unfold numsO; rw [hwg]; exact hal
  have hL : numsL fr s = xs := by unfold numsL; rw [if_pos hyes, hwg, hxv]
  exact ⟨a6, c6, by rw [hyes, hL]; rfl, by rw [hL]; exact hxs, by rw [hL]; simpa using hcl, rfl⟩



set_option maxHeartbeats 4000000 in
theorem LineP_C {R : Ro} (hG : GlobE R) {s : List UInt8} (hs : s.length ≤ 1000000) (w0 : World) (E : List Ent) : K.Fn Tryz.prog 75 [.string (str s)] w0 R E (fun v R' E' => ∃ (nm : List UInt8) (L : Ln) (a1 a2 : Option Addr) (c1 c2 : Nat), v = .tuple #[.string (str nm), .agg #[.int .i64 L.kind, .int .i64 L.cap, .int .i64 L.n, .slice a1 L.w.length c1, .slice a2 L.tb.length c2], .bool (lineO s)] ∧ RS R' 1 encI a1 L.w ∧ RS R' 1 encI a2 L.tb ∧ L.w.length ≤ c1 ∧ L.tb.length ≤ c2 ∧ (lineO s = true → nm = nth (splC 32 s) 1 ∧ L = lnVal (splC 32 s)) ∧ E' = E) := by
 
 refine fE 125 Tryz.func75 ?_
 refine zQ (zG (zR 1 rfl ?_))
 refine zA fun b3 => ?_
 refine zR 1 rfl (zN (zU (zQ (zG (zR 1 rfl ?_)))))
 refine WL.call en88 rfl rfl qD (CallOp.mkT rfl rfl rfl rfl) (Split_C hG (s := s) (d := 32) qO w0 _) ?_
 rintro _ R1 _ hR1 ⟨a12, rfl, hws, rfl⟩
 have hRR := hR1
 have hG := hG.mono hR1
 have hwl := splC_len 32 s
 have hwm := splC_mem 32 s
 generalize hwg : splC 32 s = ws at hws hwl hwm ⊢
 have hwa : ∀ i, (nth ws i).length ≤ s.length := fun i => by
  by_cases h : i < ws.length
  ·exact hwm _ (nth_mem h)
  ·rw [nth_out (by omega)]; exact Nat.zero_le _
 refine zR 1 rfl (zN (zU (zQ (zQ (zG (zR 4 rfl ?_))))))
 refine yP ?_
 refine WG.y rfl rfl (by decide) (Yl.indexN tab_ok rfl rfl rfl rfl rfl rfl qE (by intro hg; (try simp only [zk] at hg); (try dsimp only) <;> omega) (by intro hg; (try simp only [zk] at hg); first | exact qI)) ?_
 refine' WG.y rfl rfl qD (Yl.loadG tab_ok rfl rfl rfl qE ?r1 rfl ?h1 ?g1) ?_
 case r1 => ((apply RS.rdC; assumption))
 case h1 => rfl
 case g1 => (intro hg; (try simp only [zk] at hg); (try dsimp only); omega)
 refine WG.y rfl rfl qD (Yl.neS rfl rfl rfl qE) ?_
 refine yO ?_
 refine zR 1 rfl ?_
 refine yP ?_
 refine WG.y rfl rfl (by decide) (Yl.indexN tab_ok rfl rfl rfl rfl rfl rfl qE (by intro hg; (try simp only [zk] at hg); (try dsimp only) <;> omega) (by intro hg; (try simp only [zk] at hg); first | exact qI)) ?_
 refine' WG.y rfl rfl qD (Yl.loadG tab_ok rfl rfl rfl qE ?r2 rfl ?h2 ?g2) ?_
 case r2 => ((apply RS.rdC; assumption))
 case h2 => rfl
 case g2 => (intro hg; (try simp only [zk] at hg); (try dsimp only); omega)
 refine WG.callV en41 rfl rfl qD (CallOp.mk' rfl rfl rfl rfl) qE (fun hg => Word_V (s := nth ws 1) (by have := hwa 1; omega)) ?_
 refine yP ?_
 refine yO ?_
 refine zN (zU ?_)
 refine W.cond rfl (fun hc0 => ?_) (fun hc0 => ?_)
 ·try simp only [zk] at hc0
  have hhd : lnHead ws = false := by
   unfold lnHead
   rw [Bool.and_eq_false_iff, Bool.and_eq_false_iff, decide_eq_false_iff_not, decide_eq_false_iff_not]
   rcases hc0 with (h | h) | h
   ·left; omega
   ·right; left; intro e; exact h (by rw [e]; rfl)
   ·right; right; simpa using h
  refine zQ (zG ?_)
  -- build
  refine WG.y rfl rfl qD (Yl.build (parts := []) tab_ok rfl rfl rfl rfl (fun _ => rfl) rfl rfl) ?_
  refine zR 1 rfl ?_
  refine zE 0 ?_
  refine zR 1 rfl (zN (zU (zT (wt ?_))))
  refine WE.retFS (E' := E) qS tab_ok [_, _, _] rfl ⟨rfl, ⟨_, _, _, rfl, rfl, rfl, qB, rfl⟩, rfl, trivial⟩ (hRR) ?_
  have hO : lineO s = false := by unfold lineO; rw [hwg, hhd]; rfl
  exact ⟨[], ⟨0, 0, 0, [], []⟩, none, none, 0, 0, by rw [hO]; rfl, ⟨by simp, .inl rfl, by simp⟩, ⟨by simp, .inl rfl, by simp⟩, Nat.le_refl _, Nat.le_refl _, (fun h => by rw [hO] at h; cases h), rfl⟩
 ·try simp only [zk] at hc0
  obtain ⟨⟨h4, hl0⟩, hw1⟩ := hc0
  have h4n : 4 ≤ ws.length := by omega
  have hhd : lnHead ws = true := by unfold lnHead; rw [decide_eq_true h4n, decide_eq_true (str_inj (b := wLine) hl0), hw1]; rfl
  refine zK (zU (zQ (zG ?_)))
  -- build
  refine WG.y rfl rfl qD (Yl.build (parts := []) tab_ok rfl rfl rfl rfl (fun _ => rfl) rfl rfl) ?_
  refine zA fun b6 => ?_
  refine zE 0 ?_
  refine zN (zU (zQ (zG (zR 2 rfl (zN (zU (zQ (zG (zR 1 rfl ?_)))))))))
  refine WG.y rfl rfl qD (Yl.indexN tab_ok rfl rfl rfl rfl rfl rfl (fun _ => rfl) qN qH) ?_
  refine yR ?_
  refine WG.callV en89 rfl rfl qD (CallOp.mk' rfl rfl rfl rfl) (fun _ => rfl) (fun hg => Number9_V (w := nth ws 3) (by have := hwa 3; omega)) ?_
  refine zR 4 rfl ?_
  refine zF 0 ?_
  refine zR 1 rfl (zN (zU ?_))
  refine W.seqCut (β := Ln × Option Addr × Option Addr × Nat × Nat × Bool × Ro) (fun (L, a1, a2, c1, c2, mo, Rk) => RS Rk 1 encI a1 L.w ∧ RS Rk 1 encI a2 L.tb ∧ L.w.length ≤ c1 ∧ L.tb.length ≤ c2 ∧ RLe R1 Rk ∧ mo = lnMore ws ∧ (mo = true → L = lnVal ws)) (fun (L, a1, a2, c1, c2, mo, Rk) => [(3, true, .pointer (some ⟨b3, 0, none⟩)), (5, true, .slice (some a12) ws.length ws.length), (6, true, .pointer (some ⟨b6, 0, none⟩)), (7, true, .bool (num9 (nth ws 3))), (8, true, .bool mo)]) (fun (L, a1, a2, c1, c2, mo, Rk) => Rk) (fun (L, a1, a2, c1, c2, mo, Rk) => .blk b6 [.int .i64 L.kind, .int .i64 L.cap, .int .i64 L.n, .slice a1 L.w.length c1, .slice a2 L.tb.length c2] :: .blk b3 [.int .i64 0, .int .i64 0, .int .i64 0, .slice none 0 0, .slice none 0 0] :: E) ?_ ?_
  ·
   intro zz hst
   obtain ⟨L, a1, a2, c1, c2, mo, Rk⟩ := zz
   obtain ⟨hf1, hf2, hg1, hg2, hRk, hmo, hLv⟩ := hst
   dsimp only at hf1 hf2 hg1 hg2 hRk hmo hLv ⊢
   have hws := hws.mono hRk
   have hRR := hRR.trans hRk
   refine zQ (zQ (zG (zR 3 rfl ?_)))
   refine yP ?_
   refine yP ?_
   refine yO ?_
   refine zN (zU ?_)
   refine W.cond rfl (fun hc1 => ?_) (fun hc1 => ?_)
   ·try simp only [zk] at hc1
    have hO : lineO s = false := by
     unfold lineO
     rw [hwg, hhd, ← hmo, Bool.true_and, Bool.and_eq_false_iff]
     simpa using hc1
    refine zQ (zG ?_)
    -- build
    refine WG.y rfl rfl qD (Yl.build (parts := []) tab_ok rfl rfl rfl rfl (fun _ => rfl) rfl rfl) ?_
    refine zR 1 rfl ?_
    refine zE 1 ?_
    refine zR 1 rfl (zN (zU (zT (wt ?_))))
    refine WE.retFS (E' := E) qS tab_ok [_, _, _] rfl ⟨rfl, ⟨_, _, _, rfl, rfl, rfl, qB, rfl⟩, rfl, trivial⟩ (hRR) ?_
    exact ⟨[], ⟨0, 0, 0, [], []⟩, none, none, 0, 0, by rw [hO]; rfl, ⟨by simp, .inl rfl, by simp⟩, ⟨by simp, .inl rfl, by simp⟩, Nat.le_refl _, Nat.le_refl _, (fun h => by rw [hO] at h; cases h), rfl⟩
   ·try simp only [zk] at hc1
    have hO : lineO s = true := by unfold lineO; rw [hwg, hhd, ← hmo, hc1.1, hc1.2]; rfl
    refine zK (zU (zQ ?_))
    refine W.regionH _ (ES := [.blk b6 [.int .i64 L.kind, .int .i64 L.cap, .int .i64 L.n, .slice a1 L.w.length c1, .slice a2 L.tb.length c2]]) mixed ?_
    refine tP 0 ?_
    refine WA.take 1 rfl qK qK qK rfl rfl qD (Yl.indexN tab_ok rfl rfl rfl rfl rfl rfl (fun _ => rfl) qN qH) qS qR ?_
    refine' WA.take 2 rfl qK qK qK rfl rfl qD (Yl.load1 tab_ok rfl rfl rfl (fun _ => rfl) ?r4 rfl ?h4) qS qR ?_
    case r4 => ((apply RS.rdD; assumption; ((try dsimp only) <;> omega)))
    case h4 => rfl
    refine tL 3 (Rd.blk 0 rfl) ?_
    refine tP 4 ?_
    refine zCE 5 1 ?_
    refine tP 6 ?_
    refine WA.done qK ?_
    refine zU (zT ?_)
    refine WE.retFS (E' := E) qS tab_ok [_, _, _] rfl ⟨rfl, ⟨_, _, _, rfl, rfl, rfl, qB, rfl⟩, rfl, trivial⟩ (hRR) ?_
    exact ⟨nth ws 1, L, a1, a2, c1, c2, by rw [hO]; rfl, hf1, hf2, hg1, hg2, fun _ => ⟨rfl, hLv hc1.2⟩, rfl⟩
  ·
   refine zQ (zG (zR 1 rfl ?_))
   refine WG.y rfl rfl qD (Yl.indexN tab_ok rfl rfl rfl rfl rfl rfl (fun _ => rfl) qN qH) ?_
   refine yR ?_
   refine zN (zU (zB (zQ (zG ?_))))
   refine WG.y rfl rfl qD (Yl.eqS rfl rfl rfl (fun _ => rfl)) ?_
   refine zR 1 rfl (zN (zU ?_))
   refine W.cond rfl (fun hc2 => ?_) (fun hc2 => ?_)
   ·try simp only [zk] at hc2
    have hkF : nth ws 2 = wFifo := str_inj (b := wFifo) hc2
    refine zQ (zG (zR 1 rfl ?_))
    refine zF 0 ?_
    refine zR 1 rfl ?_
    refine zF 0 ?_
    refine zN (zU (zG (zR 4 rfl (zN (zL ?_)))))
    refine WE.cut (⟨1, (num9V (nth ws 3) : Int), 1, [], []⟩, none, none, 0, 0, decide ((ws.length : Int) = 4), R1) ⟨⟨by simp, .inl rfl, by simp⟩, ⟨by simp, .inl rfl, by simp⟩, Nat.le_refl _, Nat.le_refl _, RLe.refl _, by unfold lnMore; rw [if_pos hkF]; exact decide_eq_decide.2 (by omega), fun _ => by unfold lnVal; rw [if_pos hkF]⟩ ⟨rfl, rfl, rfl, rfl, rfl, rfl⟩ (RLe.refl _) qS
   ·try simp only [zk] at hc2
    have hnF : ¬ nth ws 2 = wFifo := fun h => hc2 (by rw [h]; rfl)
    refine zQ (zG ?_)
    refine WG.y rfl rfl qD (Yl.eqS rfl rfl rfl (fun _ => rfl)) ?_
    refine zR 1 rfl (zN (zU ?_))
    refine W.cond rfl (fun hc3 => ?_) (fun hc3 => ?_)
    ·try simp only [zk] at hc3
     have hkP : nth ws 2 = wPrio := str_inj (b := wPrio) hc3
     refine zQ (zG (zR 1 rfl ?_))
     refine zF 0 ?_
     refine zN (zU (zQ (zG (zR 3 rfl (zN (zU ?_))))))
     refine W.condE rfl (fun hc4 => ?_) (fun hc4 => ?_)
     ·try dsimp only at hc4
      refine zG (zR 1 rfl ?_)
      refine WG.y rfl rfl qD (Yl.indexN tab_ok rfl rfl rfl rfl rfl rfl (fun _ => rfl) qN qH) ?_
      refine yR ?_
      refine WG.callV en89 rfl rfl qD (CallOp.mk' rfl rfl rfl rfl) (fun _ => rfl) (fun hg => Number9_V (w := nth ws 4) (by have := hwa 4; omega)) ?_
      refine zR 4 rfl ?_
      refine zF 0 ?_
      refine zR 1 rfl (zN (zL ?_))
      refine WE.cut (⟨2, (num9V (nth ws 3) : Int), (num9V (nth ws 4) : Int), [], []⟩, none, none, 0, 0, num9 (nth ws 4), R1) ⟨⟨by simp, .inl rfl, by simp⟩, ⟨by simp, .inl rfl, by simp⟩, Nat.le_refl _, Nat.le_refl _, RLe.refl _, by unfold lnMore; rw [if_neg hnF, if_pos hkP, decide_eq_true (show ws.length = 5 by omega), Bool.true_and], fun _ => by unfold lnVal; rw [if_neg hnF, if_pos hkP]⟩ ⟨rfl, rfl, rfl, rfl, rfl, rfl⟩ (RLe.refl _) qS
     ·try dsimp only at hc4
      refine zK (zL ?_)
      refine WE.cut (⟨2, (num9V (nth ws 3) : Int), 0, [], []⟩, none, none, 0, 0, false, R1) ⟨⟨by simp, .inl rfl, by simp⟩, ⟨by simp, .inl rfl, by simp⟩, Nat.le_refl _, Nat.le_refl _, RLe.refl _, by unfold lnMore; rw [if_neg hnF, if_pos hkP, decide_eq_false (show ¬ ws.length = 5 by omega), Bool.false_and], fun h => by cases h⟩ ⟨rfl, rfl, rfl, rfl, rfl, rfl⟩ (RLe.refl _) qS
    ·try simp only [zk] at hc3
     have hnP : ¬ nth ws 2 = wPrio := fun h => hc3 (by rw [h]; rfl)
     refine zQ (zQ (zG ?_))
     refine WG.y rfl rfl qD (Yl.eqS rfl rfl rfl (fun _ => rfl)) ?_
     refine zR 1 rfl (zN (zU ?_))
     refine W.cond rfl (fun hc5 => ?_) (fun hc5 => ?_)
     ·try simp only [zk] at hc5
      have hkR : nth ws 2 = wRob := str_inj (b := wRob) hc5
      refine zK (zU ?_)
      refine W.cond rfl (fun hc6 => ?_) (fun hc6 => ?_)
      ·try simp only [zk] at hc6
       refine zQ (zG (zR 1 rfl ?_))
       refine zF 0 ?_
       refine zN (zU (zQ (zQ (zG (zR 1 rfl ?_)))))
       refine WG.y rfl rfl qD (Yl.indexN tab_ok rfl rfl rfl rfl rfl rfl (fun _ => rfl) qN qH) ?_
       refine yR ?_
       refine WG.y rfl rfl qD (Yl.eqS rfl rfl rfl (fun _ => rfl)) ?_
       refine zN (zU ?_)
       refine W.cond rfl (fun hc7 => ?_) (fun hc7 => ?_)
       ·try simp only [zk] at hc7
        exact absurd (hkR.symm.trans (str_inj (b := wDef) hc7)) qD
       ·try simp only [zk] at hc7
        refine zK (zU (zQ (zG (zR 3 rfl (zN (zU ?_))))))
        refine W.condE rfl (fun hc8 => ?_) (fun hc8 => ?_)
        ·try dsimp only at hc8
         refine zQ (zG (zR 1 rfl ?_))
         refine WG.y rfl rfl qD (Yl.indexN tab_ok rfl rfl rfl rfl rfl rfl (fun _ => rfl) qN qH) ?_
         refine yR ?_
         refine WL.call en90 rfl rfl qD (CallOp.mkT rfl rfl rfl rfl) (NumsG_C hG (s := nth ws 4) (fr := false) (by have := hwa 4; omega) w0 _) ?_
         rintro _ R2 _ hR2 ⟨a80, c80, rfl, hl80, hc80, rfl⟩
         have hws := hws.mono hR2
         refine zR 4 rfl ?_
         refine zF 0 ?_
         refine zR 1 rfl (zN (zU (zG (zR 1 rfl ?_))))
         refine yL (Rd.add (Rd.blk 0 rfl) _) ?_
         refine zR 2 rfl ?_
         refine zF 0 ?_
         refine zN (zL ?_)
         refine WE.cut (⟨3, (num9V (nth ws 3) : Int), ((numsL false (nth ws 4)).length : Int), numsL false (nth ws 4), []⟩, a80, none, c80, 0, numsO false (nth ws 4), R2) ⟨hl80, ⟨by simp, .inl rfl, by simp⟩, hc80, Nat.le_refl _, hR2, by unfold lnMore; rw [if_neg hnF, if_neg hnP, if_pos (.inl hkR), decide_eq_true (show ws.length = 5 by omega), Bool.true_and], fun _ => by unfold lnVal; rw [if_neg hnF, if_neg hnP, if_pos hkR]⟩ ⟨rfl, rfl, rfl, rfl, rfl, rfl⟩ (RLe.refl _) qS
        ·try dsimp only at hc8
         refine zK (zL ?_)
         refine WE.cut (⟨3, (num9V (nth ws 3) : Int), 0, [], []⟩, none, none, 0, 0, false, R1) ⟨⟨by simp, .inl rfl, by simp⟩, ⟨by simp, .inl rfl, by simp⟩, Nat.le_refl _, Nat.le_refl _, RLe.refl _, by unfold lnMore; rw [if_neg hnF, if_neg hnP, if_pos (.inl hkR), decide_eq_false (show ¬ ws.length = 5 by omega), Bool.false_and], fun h => by cases h⟩ ⟨rfl, rfl, rfl, rfl, rfl, rfl⟩ (RLe.refl _) qS
      ·try simp only [zk] at hc6
       exact absurd hc5 hc6
     ·try simp only [zk] at hc5
      have hnR : ¬ nth ws 2 = wRob := fun h => hc5 (by rw [h]; rfl)
      refine zG ?_
      refine WG.y rfl rfl qD (Yl.eqS rfl rfl rfl (fun _ => rfl)) ?_
      refine zR 1 rfl (zN (zU ?_))
      refine W.cond rfl (fun hc9 => ?_) (fun hc9 => ?_)
      ·try simp only [zk] at hc9
       have hkD : nth ws 2 = wDef := str_inj (b := wDef) hc9
       refine zQ (zG (zR 1 rfl ?_))
       refine zF 0 ?_
       refine zN (zU (zQ (zQ (zG (zR 1 rfl ?_)))))
       refine WG.y rfl rfl qD (Yl.indexN tab_ok rfl rfl rfl rfl rfl rfl (fun _ => rfl) qN qH) ?_
       refine yR ?_
       refine WG.y rfl rfl qD (Yl.eqS rfl rfl rfl (fun _ => rfl)) ?_
       refine zN (zU ?_)
       refine W.cond rfl (fun hc10 => ?_) (fun hc10 => ?_)
       ·try simp only [zk] at hc10
        refine zG (zR 1 rfl ?_)
        refine zF 0 ?_
        refine zN (zU (zQ (zG (zR 3 rfl (zN (zU ?_))))))
        refine W.condE rfl (fun hc11 => ?_) (fun hc11 => ?_)
        ·try dsimp only at hc11
         refine zQ (zG (zR 1 rfl ?_))
         refine WG.y rfl rfl qD (Yl.indexN tab_ok rfl rfl rfl rfl rfl rfl (fun _ => rfl) qN qH) ?_
         refine yR ?_
         refine WL.call en90 rfl rfl qD (CallOp.mkT rfl rfl rfl rfl) (NumsG_C hG (s := nth ws 4) (fr := false) (by have := hwa 4; omega) w0 _) ?_
         rintro _ R2 _ hR2 ⟨a80, c80, rfl, hl80, hc80, rfl⟩
         have hws := hws.mono hR2
         refine zR 4 rfl ?_
         refine zF 0 ?_
         refine zR 1 rfl (zN (zU (zG (zR 1 rfl ?_))))
         refine yL (Rd.add (Rd.blk 0 rfl) _) ?_
         refine zR 2 rfl ?_
         refine zF 0 ?_
         refine zN (zL ?_)
         refine WE.cut (⟨4, (num9V (nth ws 3) : Int), ((numsL false (nth ws 4)).length : Int), numsL false (nth ws 4), []⟩, a80, none, c80, 0, numsO false (nth ws 4), R2) ⟨hl80, ⟨by simp, .inl rfl, by simp⟩, hc80, Nat.le_refl _, hR2, by unfold lnMore; rw [if_neg hnF, if_neg hnP, if_pos (.inr hkD), decide_eq_true (show ws.length = 5 by omega), Bool.true_and], fun _ => by unfold lnVal; rw [if_neg hnF, if_neg hnP, if_neg hnR, if_pos hkD]⟩ ⟨rfl, rfl, rfl, rfl, rfl, rfl⟩ (RLe.refl _) qS
        ·try dsimp only at hc11
         refine zK (zL ?_)
         refine WE.cut (⟨4, (num9V (nth ws 3) : Int), 0, [], []⟩, none, none, 0, 0, false, R1) ⟨⟨by simp, .inl rfl, by simp⟩, ⟨by simp, .inl rfl, by simp⟩, Nat.le_refl _, Nat.le_refl _, RLe.refl _, by unfold lnMore; rw [if_neg hnF, if_neg hnP, if_pos (.inr hkD), decide_eq_false (show ¬ ws.length = 5 by omega), Bool.false_and], fun h => by cases h⟩ ⟨rfl, rfl, rfl, rfl, rfl, rfl⟩ (RLe.refl _) qS
       ·try simp only [zk] at hc10
        exact absurd hc9 hc10
      ·try simp only [zk] at hc9
       have hnD : ¬ nth ws 2 = wDef := fun h => hc9 (by rw [h]; rfl)
       refine zQ (zG ?_)
       refine WG.y rfl rfl qD (Yl.eqS rfl rfl rfl (fun _ => rfl)) ?_
       refine zR 1 rfl (zN (zU ?_))
       refine W.cond rfl (fun hc12 => ?_) (fun hc12 => ?_)
       ·try simp only [zk] at hc12
        have hkS : nth ws 2 = wSlots := str_inj (b := wSlots) hc12
        refine zQ (zG (zR 1 rfl ?_))
        refine zF 0 ?_
        refine zN (zU (zQ (zG (zR 3 rfl (zN (zU ?_))))))
        refine W.condE rfl (fun hc13 => ?_) (fun hc13 => ?_)
        ·try dsimp only at hc13
         refine zQ (zG (zR 1 rfl ?_))
         refine WG.y rfl rfl qD (Yl.indexN tab_ok rfl rfl rfl rfl rfl rfl (fun _ => rfl) qN qH) ?_
         refine yR ?_
         refine WG.callV en89 rfl rfl qD (CallOp.mk' rfl rfl rfl rfl) (fun _ => rfl) (fun hg => Number9_V (w := nth ws 4) (by have := hwa 4; omega)) ?_
         refine zR 4 rfl ?_
         refine zF 0 ?_
         refine zR 1 rfl (zN (zU (zQ (zG (zR 1 rfl ?_)))))
         refine WG.y rfl rfl qD (Yl.indexN tab_ok rfl rfl rfl rfl rfl rfl (fun _ => rfl) qN qH) ?_
         refine yR ?_
         refine WL.call en90 rfl rfl qD (CallOp.mkT rfl rfl rfl rfl) (NumsG_C hG (s := nth ws 5) (fr := true) (by have := hwa 5; omega) w0 _) ?_
         rintro _ R2 _ hR2 ⟨a80, c80, rfl, hl80, hc80, rfl⟩
         have hws := hws.mono hR2
         refine zR 5 rfl (zN (zU (zG (zR 3 rfl ?_))))
         refine yP ?_
         refine yN ?_
         refine zR 1 rfl ?_
         refine zF 0 ?_
         refine zR 1 rfl (zN (zL ?_))
         refine WE.cut (⟨5, (num9V (nth ws 3) : Int), (num9V (nth ws 4) : Int), [], numsL true (nth ws 5)⟩, none, a80, 0, c80, (num9 (nth ws 4) && numsO true (nth ws 5)), R2) ⟨⟨by simp, .inl rfl, by simp⟩, hl80, Nat.le_refl _, hc80, hR2, by unfold lnMore; rw [if_neg hnF, if_neg hnP, if_neg (fun h => h.elim hnR hnD), if_pos hkS, decide_eq_true (show ws.length = 6 by omega), Bool.true_and], fun _ => by unfold lnVal; rw [if_neg hnF, if_neg hnP, if_neg hnR, if_neg hnD]⟩ ⟨rfl, rfl, rfl, rfl, rfl, rfl⟩ (RLe.refl _) qS
        ·try dsimp only at hc13
         refine zK (zL ?_)
         refine WE.cut (⟨5, (num9V (nth ws 3) : Int), 0, [], []⟩, none, none, 0, 0, false, R1) ⟨⟨by simp, .inl rfl, by simp⟩, ⟨by simp, .inl rfl, by simp⟩, Nat.le_refl _, Nat.le_refl _, RLe.refl _, by unfold lnMore; rw [if_neg hnF, if_neg hnP, if_neg (fun h => h.elim hnR hnD), if_pos hkS, decide_eq_false (show ¬ ws.length = 6 by omega), Bool.false_and], fun h => by cases h⟩ ⟨rfl, rfl, rfl, rfl, rfl, rfl⟩ (RLe.refl _) qS
       ·try simp only [zk] at hc12
        have hnS : ¬ nth ws 2 = wSlots := fun h => hc12 (by rw [h]; rfl)
        refine zK (zL ?_)
        refine WE.cut (⟨0, (num9V (nth ws 3) : Int), 0, [], []⟩, none, none, 0, 0, false, R1) ⟨⟨by simp, .inl rfl, by simp⟩, ⟨by simp, .inl rfl, by simp⟩, Nat.le_refl _, Nat.le_refl _, RLe.refl _, by unfold lnMore; rw [if_neg hnF, if_neg hnP, if_neg (fun h => h.elim hnR hnD), if_neg hnS], fun h => by cases h⟩ ⟨rfl, rfl, rfl, rfl, rfl, rfl⟩ (RLe.refl _) qS

end Go.Proofs.YtmidibkljoaoiaaGreatDoor
