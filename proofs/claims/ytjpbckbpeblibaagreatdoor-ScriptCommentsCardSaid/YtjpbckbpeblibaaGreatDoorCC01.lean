/- part of a proof -/
import Derived.Test.YtjpbckbpeblibaaGreatDoorCC00
import Derived.Shelf.Strings.SlTrimAscii
import Derived.Shelf.Spec.SearchS
import Derived.Shelf.Strings.Builder1
import Derived.Shelf.Strings.Builder2
import Derived.Shelf.Strings.OnBuilder
import Derived.Shelf.Strings.Trim
import Derived.Shelf.Small.Utf8
import Derived.Shelf.Small.Strs
import Derived.Shelf.Strings.BuilderF
import Derived.Shelf.Strings.BuilderK
import Derived.Shelf.Utf8.RuneCount
import Derived.Shelf.Strings.Builder2Cap
import Derived.Shelf.Strconv.Itoa0
import Derived.Shelf.Strconv.Itoa1
import Derived.Shelf.LaysM
import Derived.Shelf.Strconv.Itoa2
import Derived.Shelf.Strconv.Itoa3
import Derived.Shelf.Strconv.Itoa4
import Derived.Shelf.Strconv.ParseIntEmpty
import Derived.Shelf.Strconv.Clone
import Derived.Shelf.Strconv.SyntaxError
import Derived.Shelf.LaysC
import Derived.Shelf.Strconv.ToError
import Derived.Shelf.Strconv.Lower
import Derived.Shelf.Strconv.ParseUint10
import Derived.Shelf.Strconv.ParseUint10Empty
import Derived.Shelf.Strconv.ParseUint10Any
import Derived.Shelf.Strconv.ParseInt10
import Derived.Shelf.Strconv.RangeError
import Derived.Shelf.Strconv.ToErrorRange
import Derived.Shelf.Strconv.ParseUintEmpty
import Derived.Shelf.Strconv.ParseUint10b64
import Derived.Shelf.Strconv.ParseUint10b32
import Derived.Shelf.Strconv.ParseUint10b16
import Derived.Shelf.Strconv.ParseUint10b8
import Derived.Shelf.Strconv.ParseUint10At
import Derived.Shelf.Strconv.ParseInt10At64
import Derived.Shelf.Strconv.ParseInt10At32
import Derived.Shelf.Strconv.ParseInt10At16
import Derived.Shelf.Strconv.ParseInt10At8
import Derived.Shelf.Strconv.ParseInt10All
import Derived.Shelf.Strconv.ParseIntPublic10
import Derived.Shelf.Strconv.ErrVarParseInt
import Derived.Ground.MpProg
import Derived.Shelf.Pu.ParseUintPublic10
import Derived.Shelf.Pu.ErrVarParseUint
import Derived.Shelf.Strings.Search1
import Derived.Shelf.Strings.Search2
import Derived.Shelf.Strings.Search3
import Derived.Shelf.Strings.Cut
import Derived.Shelf.Strings.Count
import Derived.Shelf.Strings.Shaped
import Derived.Shelf.Strings.Prefix
import Derived.Shelf.Strings.Split
import Derived.Shelf.Strings.SplitShaped
import Derived.Shelf.Unicode.Decode
import Derived.Shelf.Strings.Runes
import Derived.Shelf.Strings.RuneCount
import Derived.Shelf.Strings.AsciiSet
import Derived.Shelf.Strings.Explode
import Derived.Shelf.Bits.Mul64
import Derived.Shelf.Strings.Repeat
import Derived.Shelf.Unicode.DecodeSlow
import Derived.Shelf.Unicode.DecodeAny
import Derived.Shelf.Strings.BuilderCap
import Derived.Shelf.Slices.Turned
import Derived.Test.YtjpbckbpeblibaaGreatDoorProg
import Derived.Lib.LaidTab
import Derived.Lib.AppendIntMem
import Derived.Lib.AtoiErrMem
import Derived.Deep.DeepCutAuto
namespace Go.Proofs.YtjpbckbpeblibaaGreatDoor
set_option linter.unusedVariables false
set_option linter.unusedSimpArgs false
set_option maxRecDepth 100000
set_option maxHeartbeats 64000000
section
open Go.Shelf
theorem Eq:type_of% @Array.getElem?_eq_getElem:=@Array.getElem?_eq_getElem
theorem Ey:type_of% @Lib.toList_data:=@Lib.toList_data
theorem ED:type_of% @List.getElem?_cons_zero:=@List.getElem?_cons_zero
theorem Fo:type_of% @congrArg:=@congrArg
theorem Fv:type_of% @Nat.lt_irrefl:=@Nat.lt_irrefl
theorem FC:type_of% @List.mem_range:=@List.mem_range
theorem FG:type_of% @beq_iff_eq:=@beq_iff_eq
theorem FH:type_of% @Calls.quiet_of_same:=@Calls.quiet_of_same
theorem FZ:type_of% @if_true:=@if_true
theorem ff_{n:Nat}{f g:Go.Func}(h:Tryz.prog.funcs[n]?=some f)(e:f=g:=by kernel_rfl):Tryz.prog.funcs[n]?=some g:=h.trans (Fo some e)
def Tryz.lays156_ren:Go.Shelf.Ren:=⟨λ|156=>44|165=>81|166=>31|169=>35|240=>63|241=>127|276=>106|277=>198|n=>n,λ|31=>67|9=>9|3=>3|4=>4|0=>0|20=>20|72=>58|76=>79|70=>56|37=>51|75=>78|127=>130|164=>180|5=>5|80=>84|n=>n,λ|n=>n⟩
theorem Tryz.lays156:Go.Proofs.Lays.n156 Tryz.prog Tryz.lays156_ren:={
 mixed:=by kernel_rfl
 f156:=ff_ Tryz.func44
 f165:=ff_ Tryz.func81
 f166:=ff_ Tryz.func31
 f169:=ff_ Tryz.func35
 f240:=ff_ Tryz.func63
 f241:=ff_ Tryz.func127
 f276:=ff_ Tryz.func106
 f277:=ff_ Tryz.func198
 t0:=Tryz.underlying0
 a0:=Tryz.isAgg0
 z0:=Tryz.sizeOf0
 v0:=Tryz.zeroValue0
 t3:=Tryz.underlying3
 a3:=Tryz.isAgg3
 z3:=Tryz.sizeOf3
 v3:=Tryz.zeroValue3
 t4:=Tryz.underlying4
 a4:=Tryz.isAgg4
 z4:=Tryz.sizeOf4
 v4:=Tryz.zeroValue4
 t9:=Tryz.underlying9
 a9:=Tryz.isAgg9
 z9:=Tryz.sizeOf9
 v9:=Tryz.zeroValue9
 t20:=Tryz.underlying20
 a20:=Tryz.isAgg20
 z20:=Tryz.sizeOf20
 v20:=Tryz.zeroValue20
 t31:=Tryz.underlying67
 a31:=Tryz.isAgg67
 z31:=Tryz.sizeOf67
 v31:=Tryz.zeroValue67
 t37:=Tryz.underlying51
 a37:=Tryz.isAgg51
 z37:=Tryz.sizeOf51
 v37:=Tryz.zeroValue51
 t70:=Tryz.underlying56
 a70:=Tryz.isAgg56
 z70:=Tryz.sizeOf56
 v70:=Tryz.zeroValue56
 t72:=Tryz.underlying58
 a72:=Tryz.isAgg58
 z72:=Tryz.sizeOf58
 v72:=Tryz.zeroValue58
 t75:=Tryz.underlying78
 a75:=Tryz.isAgg78
 z75:=Tryz.sizeOf78
 v75:=Tryz.zeroValue78
 t76:=Tryz.underlying79
 a76:=Tryz.isAgg79
 z76:=Tryz.sizeOf79
 v76:=Tryz.zeroValue79
 t127:=Tryz.underlying130
 a127:=Tryz.isAgg130
 z127:=Tryz.sizeOf130
 v127:=Tryz.zeroValue130
 t164:=Tryz.underlying180
 a164:=Tryz.isAgg180
 z164:=Tryz.sizeOf180
 v164:=Tryz.zeroValue180}
theorem Tryz.Builder_Extra_156:Builder.Extra Tryz.prog Tryz.lays156_ren:={
 sizeBuilder:=by kernel_rfl
 liesBuilder:=by kernel_rfl
 t5:=Tryz.underlying5
 a5:=Tryz.isAgg5
 z5:=Tryz.sizeOf5
 v5:=Tryz.zeroValue5
 infoByte:=by kernel_rfl
 cellsByte:=by kernel_rfl
 sizeByte:=by kernel_rfl
 neB5:=by decide}
open Go.RowKit in
theorem Tryz.strings_Join_none(a:Option Addr)(c:Nat)(sep:ByteArray)(w:World):
 Calls Tryz.prog 44 #[.slice a 0 c,.string sep] w λe w'=>e= .returned (.string ⟨#[]⟩)/\w'=w:=Any.strings_Join_none Tryz.lays156 Tryz.Builder_Extra_156 a c sep w
open Go.RowKit in
theorem Tryz.strings_Join(bk o c:Nat)(xs:List ByteArray)(sep:ByteArray)(w:World)(hcells:∀(j:Nat) x,xs[j]?=some x->w.cell? ⟨bk,o+j,none⟩=some (.string x))(hbk:bk<w.heap.size)(hN:xs.length<=140737488355328)(hcap:xs.length<=c)(hlen:(Lib.join (xs.map (·.data.toList)) sep.data.toList).length<=140737488355328):
 Calls Tryz.prog 44 #[.slice (some ⟨bk,o,none⟩) xs.length c,.string sep] w λe w'=>e= .returned (.string ⟨(Lib.join (xs.map (·.data.toList)) sep.data.toList).toArray⟩)/\Below w.heap.size w w':=Any.strings_Join Tryz.lays156 Tryz.Builder_Extra_156 bk o c xs sep w hcells hbk hN hcap hlen
def Tryz.lays161_ren:Go.Shelf.Ren:=⟨λ|161=>252|231=>272|227=>273|233=>274|235=>275|228=>291|197=>199|151=>292|260=>245|152=>299|137=>254|119=>305|224=>217|225=>216|217=>215|266=>256|n=>n,λ|9=>9|4=>4|3=>3|5=>5|117=>295|116=>294|0=>0|124=>298|105=>237|21=>21|119=>285|46=>224|139=>288|138=>287|n=>n,λ|3=>7|4=>8|n=>n⟩
theorem Tryz.lays161:Go.Proofs.Lays.n161 Tryz.prog Tryz.lays161_ren:={
 mixed:=by kernel_rfl
 f119:=ff_ Tryz.func305
 f137:=ff_ Tryz.func254
 f151:=ff_ Tryz.func292
 f152:=ff_ Tryz.func299
 f161:=ff_ Tryz.func252
 f197:=ff_ Tryz.func199
 f217:=ff_ Tryz.func215
 f224:=ff_ Tryz.func217
 f225:=ff_ Tryz.func216
 f227:=ff_ Tryz.func273
 f228:=ff_ Tryz.func291
 f231:=ff_ Tryz.func272
 f233:=ff_ Tryz.func274
 f235:=ff_ Tryz.func275
 f260:=ff_ Tryz.func245
 f266:=ff_ Tryz.func256
 t0:=Tryz.underlying0
 a0:=Tryz.isAgg0
 z0:=Tryz.sizeOf0
 v0:=Tryz.zeroValue0
 t3:=Tryz.underlying3
 a3:=Tryz.isAgg3
 z3:=Tryz.sizeOf3
 v3:=Tryz.zeroValue3
 t4:=Tryz.underlying4
 a4:=Tryz.isAgg4
 z4:=Tryz.sizeOf4
 v4:=Tryz.zeroValue4
 t5:=Tryz.underlying5
 a5:=Tryz.isAgg5
 z5:=Tryz.sizeOf5
 v5:=Tryz.zeroValue5
 t9:=Tryz.underlying9
 a9:=Tryz.isAgg9
 z9:=Tryz.sizeOf9
 v9:=Tryz.zeroValue9
 t21:=Tryz.underlying21
 a21:=Tryz.isAgg21
 z21:=Tryz.sizeOf21
 v21:=Tryz.zeroValue21
 t46:=Tryz.underlying224
 a46:=Tryz.isAgg224
 z46:=Tryz.sizeOf224
 v46:=Tryz.zeroValue224
 t105:=Tryz.underlying237
 a105:=Tryz.isAgg237
 z105:=Tryz.sizeOf237
 v105:=Tryz.zeroValue237
 t116:=Tryz.underlying294
 a116:=Tryz.isAgg294
 z116:=Tryz.sizeOf294
 t117:=Tryz.underlying295
 a117:=Tryz.isAgg295
 z117:=Tryz.sizeOf295
 v117:=Tryz.zeroValue295
 t119:=Tryz.underlying285
 a119:=Tryz.isAgg285
 z119:=Tryz.sizeOf285
 t124:=Tryz.underlying298
 a124:=Tryz.isAgg298
 z124:=Tryz.sizeOf298
 v124:=Tryz.zeroValue298
 t138:=Tryz.underlying287
 a138:=Tryz.isAgg287
 z138:=Tryz.sizeOf287
 v138:=Tryz.zeroValue287
 t139:=Tryz.underlying288
 a139:=Tryz.isAgg288
 z139:=Tryz.sizeOf288
 v139:=Tryz.zeroValue288
 g3:=by kernel_rfl
 g4:=by kernel_rfl}
def Tryz.lays137_ren:Go.Shelf.Ren:=⟨λ|137=>254|217=>215|266=>256|n=>n,λ|9=>9|5=>5|3=>3|n=>n,λ|n=>n⟩
theorem Tryz.lays137:Go.Proofs.Lays.n137 Tryz.prog Tryz.lays137_ren:={
 mixed:=by kernel_rfl
 f137:=ff_ Tryz.func254
 f217:=ff_ Tryz.func215
 f266:=ff_ Tryz.func256
 t3:=Tryz.underlying3
 a3:=Tryz.isAgg3
 z3:=Tryz.sizeOf3
 v3:=Tryz.zeroValue3
 t5:=Tryz.underlying5
 a5:=Tryz.isAgg5
 z5:=Tryz.sizeOf5
 v5:=Tryz.zeroValue5
 t9:=Tryz.underlying9
 a9:=Tryz.isAgg9
 z9:=Tryz.sizeOf9
 v9:=Tryz.zeroValue9}
open Go.RowKit in
theorem Tryz.strings_IndexByte(s:ByteArray)(c:Int)(w:World):
 Calls Tryz.prog 254 #[.string s,.int .u8 c] w λe w'=>e= .returned (.int .i64 (Lib.indexByte s.data.toList c.toNat.toUInt8))/\w'=w:=Any.strings_IndexByte Tryz.lays137 s c w
open Go.RowKit in
def Tryz.laysM171_ren:Go.Shelf.Ren:=⟨λ|171=>32|243=>64|246=>107|283=>108|284=>109|285=>110|286=>111|129=>160|317=>159|318=>161|319=>162|320=>163|337=>232|338=>233|n=>n,λ|3=>3|9=>9|2=>2|4=>4|171=>183|0=>0|53=>23|37=>51|5=>5|173=>186|212=>221|51=>222|20=>20|213=>223|46=>224|232=>277|233=>278|n=>n,λ|17=>2|18=>5|19=>6|n=>n⟩
theorem Tryz.laysM171:Go.Proofs.LaysM.n171 Tryz.prog Tryz.laysM171_ren:={
 mixed:=by kernel_rfl
 f129:=ff_ Tryz.func160
 f171:=ff_ Tryz.func32
 f243:=ff_ Tryz.func64
 f246:=ff_ Tryz.func107
 f283:=ff_ Tryz.func108
 f284:=ff_ Tryz.func109
 f285:=ff_ Tryz.func110
 f286:=ff_ Tryz.func111
 f317:=ff_ Tryz.func159
 f318:=ff_ Tryz.func161
 f319:=ff_ Tryz.func162
 f320:=ff_ Tryz.func163
 f337:=ff_ Tryz.func232
 f338:=ff_ Tryz.func233
 t0:=Tryz.underlying0
 a0:=Tryz.isAgg0
 z0:=Tryz.sizeOf0
 v0:=Tryz.zeroValue0
 t2:=Tryz.underlying2
 a2:=Tryz.isAgg2
 z2:=Tryz.sizeOf2
 v2:=Tryz.zeroValue2
 t3:=Tryz.underlying3
 a3:=Tryz.isAgg3
 z3:=Tryz.sizeOf3
 v3:=Tryz.zeroValue3
 t4:=Tryz.underlying4
 a4:=Tryz.isAgg4
 z4:=Tryz.sizeOf4
 v4:=Tryz.zeroValue4
 t5:=Tryz.underlying5
 a5:=Tryz.isAgg5
 z5:=Tryz.sizeOf5
 v5:=Tryz.zeroValue5
 t9:=Tryz.underlying9
 a9:=Tryz.isAgg9
 z9:=Tryz.sizeOf9
 v9:=Tryz.zeroValue9
 t20:=Tryz.underlying20
 a20:=Tryz.isAgg20
 z20:=Tryz.sizeOf20
 v20:=Tryz.zeroValue20
 t37:=Tryz.underlying51
 a37:=Tryz.isAgg51
 z37:=Tryz.sizeOf51
 v37:=Tryz.zeroValue51
 t46:=Tryz.underlying224
 a46:=Tryz.isAgg224
 z46:=Tryz.sizeOf224
 v46:=Tryz.zeroValue224
 t51:=Tryz.underlying222
 a51:=Tryz.isAgg222
 z51:=Tryz.sizeOf222
 v51:=Tryz.zeroValue222
 t53:=Tryz.underlying23
 a53:=Tryz.isAgg23
 z53:=Tryz.sizeOf23
 v53:=Tryz.zeroValue23
 t171:=Tryz.underlying183
 a171:=Tryz.isAgg183
 z171:=Tryz.sizeOf183
 v171:=Tryz.zeroValue183
 t173:=Tryz.underlying186
 a173:=Tryz.isAgg186
 z173:=Tryz.sizeOf186
 v173:=Tryz.zeroValue186
 t212:=Tryz.underlying221
 a212:=Tryz.isAgg221
 z212:=Tryz.sizeOf221
 v212:=Tryz.zeroValue221
 t213:=Tryz.underlying223
 a213:=Tryz.isAgg223
 z213:=Tryz.sizeOf223
 t232:=Tryz.underlying277
 a232:=Tryz.isAgg277
 z232:=Tryz.sizeOf277
 v232:=Tryz.zeroValue277
 t233:=Tryz.underlying278
 a233:=Tryz.isAgg278
 z233:=Tryz.sizeOf278
 v233:=Tryz.zeroValue278
 g17:=by kernel_rfl
 g18:=by kernel_rfl
 g19:=by kernel_rfl
 i0:=by kernel_rfl
 i2:=by kernel_rfl
 i3:=by kernel_rfl
 i4:=by kernel_rfl
 i5:=by kernel_rfl
 i9:=by kernel_rfl
 i20:=by kernel_rfl
 i37:=by kernel_rfl
 i46:=by kernel_rfl
 i51:=by kernel_rfl
 i53:=by kernel_rfl
 i171:=by kernel_rfl
 i173:=by kernel_rfl
 i212:=by kernel_rfl
 i232:=by kernel_rfl
 i233:=by kernel_rfl
 m17:=by kernel_rfl
 m18:=by kernel_rfl
 m19:=by kernel_rfl}
open Go.RowKit Go.Sort Go.Lib in
theorem Tryz.strconv_Itoa(n:Int)(h0: -9223372036854775808<=n)(h1:n<=9223372036854775807)(w:World)(htab:Lib.TabIs Tryz.prog w "internal/strconv.uint64pow10" .u64 Lib.pow10Tab):
 Calls Tryz.prog 32 #[.int .i64 n] w λe w'=>e= .returned (.string ⟨(Lib.itoa n).toArray⟩)/\∃k os,w'=grow (w.drewN k) os:=Any.strconv_Itoa Tryz.laysM171 n h0 h1 w htab
def Tryz.laysM173_ren:Go.Shelf.Ren:=⟨λ|173=>193|246=>107|283=>108|284=>109|285=>110|286=>111|129=>160|317=>159|318=>161|319=>162|320=>163|337=>232|338=>233|n=>n,λ|2=>2|3=>3|9=>9|4=>4|171=>183|0=>0|53=>23|37=>51|5=>5|173=>186|212=>221|51=>222|20=>20|213=>223|46=>224|232=>277|233=>278|n=>n,λ|17=>2|18=>5|19=>6|n=>n⟩
theorem Tryz.laysM173:Go.Proofs.LaysM.n173 Tryz.prog Tryz.laysM173_ren:={
 mixed:=by kernel_rfl
 f129:=ff_ Tryz.func160
 f173:=ff_ Tryz.func193
 f246:=ff_ Tryz.func107
 f283:=ff_ Tryz.func108
 f284:=ff_ Tryz.func109
 f285:=ff_ Tryz.func110
 f286:=ff_ Tryz.func111
 f317:=ff_ Tryz.func159
 f318:=ff_ Tryz.func161
 f319:=ff_ Tryz.func162
 f320:=ff_ Tryz.func163
 f337:=ff_ Tryz.func232
 f338:=ff_ Tryz.func233
 t0:=Tryz.underlying0
 a0:=Tryz.isAgg0
 z0:=Tryz.sizeOf0
 v0:=Tryz.zeroValue0
 t2:=Tryz.underlying2
 a2:=Tryz.isAgg2
 z2:=Tryz.sizeOf2
 v2:=Tryz.zeroValue2
 t3:=Tryz.underlying3
 a3:=Tryz.isAgg3
 z3:=Tryz.sizeOf3
 v3:=Tryz.zeroValue3
 t4:=Tryz.underlying4
 a4:=Tryz.isAgg4
 z4:=Tryz.sizeOf4
 v4:=Tryz.zeroValue4
 t5:=Tryz.underlying5
 a5:=Tryz.isAgg5
 z5:=Tryz.sizeOf5
 v5:=Tryz.zeroValue5
 t9:=Tryz.underlying9
 a9:=Tryz.isAgg9
 z9:=Tryz.sizeOf9
 v9:=Tryz.zeroValue9
 t20:=Tryz.underlying20
 a20:=Tryz.isAgg20
 z20:=Tryz.sizeOf20
 v20:=Tryz.zeroValue20
 t37:=Tryz.underlying51
 a37:=Tryz.isAgg51
 z37:=Tryz.sizeOf51
 v37:=Tryz.zeroValue51
 t46:=Tryz.underlying224
 a46:=Tryz.isAgg224
 z46:=Tryz.sizeOf224
 v46:=Tryz.zeroValue224
 t51:=Tryz.underlying222
 a51:=Tryz.isAgg222
 z51:=Tryz.sizeOf222
 v51:=Tryz.zeroValue222
 t53:=Tryz.underlying23
 a53:=Tryz.isAgg23
 z53:=Tryz.sizeOf23
 v53:=Tryz.zeroValue23
 t171:=Tryz.underlying183
 a171:=Tryz.isAgg183
 z171:=Tryz.sizeOf183
 v171:=Tryz.zeroValue183
 t173:=Tryz.underlying186
 a173:=Tryz.isAgg186
 z173:=Tryz.sizeOf186
 v173:=Tryz.zeroValue186
 t212:=Tryz.underlying221
 a212:=Tryz.isAgg221
 z212:=Tryz.sizeOf221
 v212:=Tryz.zeroValue221
 t213:=Tryz.underlying223
 a213:=Tryz.isAgg223
 z213:=Tryz.sizeOf223
 t232:=Tryz.underlying277
 a232:=Tryz.isAgg277
 z232:=Tryz.sizeOf277
 v232:=Tryz.zeroValue277
 t233:=Tryz.underlying278
 a233:=Tryz.isAgg278
 z233:=Tryz.sizeOf278
 v233:=Tryz.zeroValue278
 g17:=by kernel_rfl
 g18:=by kernel_rfl
 g19:=by kernel_rfl
 i0:=by kernel_rfl
 i2:=by kernel_rfl
 i3:=by kernel_rfl
 i4:=by kernel_rfl
 i5:=by kernel_rfl
 i9:=by kernel_rfl
 i20:=by kernel_rfl
 i37:=by kernel_rfl
 i46:=by kernel_rfl
 i51:=by kernel_rfl
 i53:=by kernel_rfl
 i171:=by kernel_rfl
 i173:=by kernel_rfl
 i212:=by kernel_rfl
 i232:=by kernel_rfl
 i233:=by kernel_rfl
 m17:=by kernel_rfl
 m18:=by kernel_rfl
 m19:=by kernel_rfl}
open Go.RowKit Go.Sort Go.Lib in
theorem Tryz.strconv_FormatInt_10(n:Int)(h0: -9223372036854775808<=n)(h1:n<=9223372036854775807)(w:World)(htab:Lib.TabIs Tryz.prog w "internal/strconv.uint64pow10" .u64 Lib.pow10Tab):
 Calls Tryz.prog 193 #[.int .i64 n,.int .i64 10] w λe w'=>e= .returned (.string ⟨(Lib.itoa n).toArray⟩)/\∃k os,w'=grow (w.drewN k) os:=Any.strconv_FormatInt_10 Tryz.laysM173 n h0 h1 w htab
def Tryz.laysC174_ren:Go.Shelf.Ren:=⟨λ|174=>242|247=>267|245=>131|287=>130|279=>202|280=>203|281=>204|282=>205|321=>200|322=>201|316=>246|171=>32|205=>247|243=>64|246=>107|283=>108|284=>109|285=>110|286=>111|129=>160|317=>159|318=>161|319=>162|320=>163|337=>232|338=>233|n=>n,λ|9=>9|3=>3|2=>2|75=>78|85=>263|4=>4|167=>239|5=>5|53=>23|175=>146|46=>224|168=>241|37=>51|0=>0|210=>268|21=>21|127=>130|145=>291|143=>289|171=>183|173=>186|212=>221|51=>222|20=>20|213=>223|232=>277|233=>278|80=>84|n=>n,λ|15=>3|16=>4|17=>2|18=>5|19=>6|n=>n⟩
theorem Tryz.laysC174:Go.Proofs.LaysC.n174 Tryz.prog Tryz.laysC174_ren:={
 mixed:=by kernel_rfl
 f129:=ff_ Tryz.func160
 f171:=ff_ Tryz.func32
 f174:=ff_ Tryz.func242
 f205:=ff_ Tryz.func247
 f243:=ff_ Tryz.func64
 f245:=ff_ Tryz.func131
 f246:=ff_ Tryz.func107
 f247:=ff_ Tryz.func267
 f279:=ff_ Tryz.func202
 f280:=ff_ Tryz.func203
 f281:=ff_ Tryz.func204
 f282:=ff_ Tryz.func205
 f283:=ff_ Tryz.func108
 f284:=ff_ Tryz.func109
 f285:=ff_ Tryz.func110
 f286:=ff_ Tryz.func111
 f287:=ff_ Tryz.func130
 f316:=ff_ Tryz.func246
 f317:=ff_ Tryz.func159
 f318:=ff_ Tryz.func161
 f319:=ff_ Tryz.func162
 f320:=ff_ Tryz.func163
 f321:=ff_ Tryz.func200
 f322:=ff_ Tryz.func201
 f337:=ff_ Tryz.func232
 f338:=ff_ Tryz.func233
 t0:=Tryz.underlying0
 a0:=Tryz.isAgg0
 z0:=Tryz.sizeOf0
 v0:=Tryz.zeroValue0
 t2:=Tryz.underlying2
 a2:=Tryz.isAgg2
 z2:=Tryz.sizeOf2
 v2:=Tryz.zeroValue2
 t3:=Tryz.underlying3
 a3:=Tryz.isAgg3
 z3:=Tryz.sizeOf3
 v3:=Tryz.zeroValue3
 t4:=Tryz.underlying4
 a4:=Tryz.isAgg4
 z4:=Tryz.sizeOf4
 v4:=Tryz.zeroValue4
 t5:=Tryz.underlying5
 a5:=Tryz.isAgg5
 z5:=Tryz.sizeOf5
 v5:=Tryz.zeroValue5
 t9:=Tryz.underlying9
 a9:=Tryz.isAgg9
 z9:=Tryz.sizeOf9
 v9:=Tryz.zeroValue9
 t20:=Tryz.underlying20
 a20:=Tryz.isAgg20
 z20:=Tryz.sizeOf20
 v20:=Tryz.zeroValue20
 t21:=Tryz.underlying21
 a21:=Tryz.isAgg21
 z21:=Tryz.sizeOf21
 v21:=Tryz.zeroValue21
 t37:=Tryz.underlying51
 a37:=Tryz.isAgg51
 z37:=Tryz.sizeOf51
 v37:=Tryz.zeroValue51
 t46:=Tryz.underlying224
 a46:=Tryz.isAgg224
 z46:=Tryz.sizeOf224
 v46:=Tryz.zeroValue224
 t51:=Tryz.underlying222
 a51:=Tryz.isAgg222
 z51:=Tryz.sizeOf222
 v51:=Tryz.zeroValue222
 t53:=Tryz.underlying23
 a53:=Tryz.isAgg23
 z53:=Tryz.sizeOf23
 v53:=Tryz.zeroValue23
 t75:=Tryz.underlying78
 a75:=Tryz.isAgg78
 z75:=Tryz.sizeOf78
 v75:=Tryz.zeroValue78
 t85:=Tryz.underlying263
 a85:=Tryz.isAgg263
 z85:=Tryz.sizeOf263
 v85:=Tryz.zeroValue263
 t127:=Tryz.underlying130
 a127:=Tryz.isAgg130
 z127:=Tryz.sizeOf130
 v127:=Tryz.zeroValue130
 t143:=Tryz.underlying289
 a143:=Tryz.isAgg289
 z143:=Tryz.sizeOf289
 v143:=Tryz.zeroValue289
 t145:=Tryz.underlying291
 a145:=Tryz.isAgg291
 z145:=Tryz.sizeOf291
 v145:=Tryz.zeroValue291
 t167:=Tryz.underlying239
 a167:=Tryz.isAgg239
 z167:=Tryz.sizeOf239
 v167:=Tryz.zeroValue239
 t168:=Tryz.underlying241
 a168:=Tryz.isAgg241
 z168:=Tryz.sizeOf241
 v168:=Tryz.zeroValue241
 t171:=Tryz.underlying183
 a171:=Tryz.isAgg183
 z171:=Tryz.sizeOf183
 v171:=Tryz.zeroValue183
 t173:=Tryz.underlying186
 a173:=Tryz.isAgg186
 z173:=Tryz.sizeOf186
 v173:=Tryz.zeroValue186
 t175:=Tryz.underlying146
 a175:=Tryz.isAgg146
 z175:=Tryz.sizeOf146
 v175:=Tryz.zeroValue146
 t210:=Tryz.underlying268
 a210:=Tryz.isAgg268
 z210:=Tryz.sizeOf268
 v210:=Tryz.zeroValue268
 t212:=Tryz.underlying221
 a212:=Tryz.isAgg221
 z212:=Tryz.sizeOf221
 v212:=Tryz.zeroValue221
 t213:=Tryz.underlying223
 a213:=Tryz.isAgg223
 z213:=Tryz.sizeOf223
 t232:=Tryz.underlying277
 a232:=Tryz.isAgg277
 z232:=Tryz.sizeOf277
 v232:=Tryz.zeroValue277
 t233:=Tryz.underlying278
 a233:=Tryz.isAgg278
 z233:=Tryz.sizeOf278
 v233:=Tryz.zeroValue278
 g15:=by kernel_rfl
 g16:=by kernel_rfl
 g17:=by kernel_rfl
 g18:=by kernel_rfl
 g19:=by kernel_rfl
 t80:=Tryz.underlying84
 a80:=Tryz.isAgg84
 z80:=Tryz.sizeOf84
 v80:=Tryz.zeroValue84
 i0:=by kernel_rfl
 i2:=by kernel_rfl
 i3:=by kernel_rfl
 i4:=by kernel_rfl
 i5:=by kernel_rfl
 i9:=by kernel_rfl
 i20:=by kernel_rfl
 i21:=by kernel_rfl
 i37:=by kernel_rfl
 i46:=by kernel_rfl
 i51:=by kernel_rfl
 i53:=by kernel_rfl
 i75:=by kernel_rfl
 i80:=by kernel_rfl
 i85:=by kernel_rfl
 i127:=by kernel_rfl
 i143:=by kernel_rfl
 i145:=by kernel_rfl
 i167:=by kernel_rfl
 i168:=by kernel_rfl
 i171:=by kernel_rfl
 i173:=by kernel_rfl
 i175:=by kernel_rfl
 i210:=by kernel_rfl
 i212:=by kernel_rfl
 i232:=by kernel_rfl
 i233:=by kernel_rfl
 m15:=by kernel_rfl
 m16:=by kernel_rfl
 m17:=by kernel_rfl
 m18:=by kernel_rfl
 m19:=by kernel_rfl
 c0:=by kernel_rfl
 c2:=by kernel_rfl
 c3:=by kernel_rfl
 c4:=by kernel_rfl
 c5:=by kernel_rfl
 c9:=by kernel_rfl
 c20:=by kernel_rfl
 c21:=by kernel_rfl
 c37:=by kernel_rfl
 c46:=by kernel_rfl
 c51:=by kernel_rfl
 c53:=by kernel_rfl
 c75:=by kernel_rfl
 c80:=by kernel_rfl
 c85:=by kernel_rfl
 c127:=by kernel_rfl
 c143:=by kernel_rfl
 c145:=by kernel_rfl
 c167:=by kernel_rfl
 c168:=by kernel_rfl
 c171:=by kernel_rfl
 c173:=by kernel_rfl
 c175:=by kernel_rfl
 c210:=by kernel_rfl
 c212:=by kernel_rfl
 c213:=by kernel_rfl
 c232:=by kernel_rfl
 c233:=by kernel_rfl}
open Go.RowKit in
theorem Tryz.strconv_ParseInt_10_at64_ok(s:ByteArray)(hmax:s.size<=9223372036854775806)(v:Int)(h:Lib.parseIntB 64 s.data.toList= .ok v)(w:World):
 Calls Tryz.prog 242 #[.string s,.int .i64 10,.int .i64 64] w λe w'=>e= .returned (.tuple #[.int .i64 v,.nilIface])/\(w'=w\/∃t,w'=Lib.bytesWorld w 5 t):=Any.strconv_ParseInt_10_at64_ok Tryz.laysC174 s hmax v h w
open Go.RowKit in
theorem Tryz.strconv_ParseInt_10_at64_syntax_var(s:ByteArray)(hlim:s.size<=281474976710656)(h:Lib.parseIntB 64 s.data.toList=Lib.parseIntB 64 [])(tp:TypeId)(p:Value)(w:World)(hvar:w.var? Tryz.prog "strconv.ErrSyntax"=some #[.iface tp p]):
 Calls Tryz.prog 242 #[.string s,.int .i64 10,.int .i64 64] w λe w'=>∃N,e= .returned (.tuple #[.int .i64 (0),.iface 241 (.pointer (some ⟨N,0,none⟩))])/\w.heap.size<=N/\w'.heap[N]?=some (.cells #[.string ⟨#[80,97,114,115,101,73,110,116]⟩,.string s,.iface tp p] 268 (0,0))/\Below w.heap.size w w':=Any.strconv_ParseInt_10_at64_syntax_var Tryz.laysC174 s hlim h tp p w hvar
open Go.RowKit in
theorem Tryz.strconv_ParseInt_10_at64_range_var(s:ByteArray)(hlim:s.size<=281474976710656)(h:Lib.parseIntB 64 s.data.toList= .range)(tp:TypeId)(p:Value)(w:World)(hvar:w.var? Tryz.prog "strconv.ErrRange"=some #[.iface tp p]):
 Calls Tryz.prog 242 #[.string s,.int .i64 10,.int .i64 64] w λe w'=>∃N,e= .returned (.tuple #[.int .i64 (Lib.intSat 64 s.data.toList),.iface 241 (.pointer (some ⟨N,0,none⟩))])/\w.heap.size<=N/\w'.heap[N]?=some (.cells #[.string ⟨#[80,97,114,115,101,73,110,116]⟩,.string s,.iface tp p] 268 (0,0))/\Below w.heap.size w w':=Any.strconv_ParseInt_10_at64_range_var Tryz.laysC174 s hlim h tp p w hvar
def Tryz.laysPu14_ren:Go.Shelf.Ren:=⟨λ|14=>84|16=>130|17=>131|19=>200|20=>201|21=>202|22=>203|23=>204|24=>205|25=>246|27=>32|26=>247|28=>64|29=>107|30=>108|31=>109|32=>110|33=>111|35=>160|34=>159|36=>161|37=>162|38=>163|39=>232|40=>233|n=>n,λ|9=>9|3=>3|22=>23|24=>78|25=>146|4=>4|34=>239|5=>5|36=>224|37=>51|0=>0|39=>241|21=>21|44=>268|47=>130|50=>291|48=>289|2=>2|52=>183|55=>186|59=>221|60=>222|20=>20|61=>223|65=>277|66=>278|67=>84|n=>n,λ|0=>3|1=>4|2=>2|3=>5|4=>6|n=>n⟩
theorem Tryz.laysPu14:Go.Proofs.LaysPu.n14 Tryz.prog Tryz.laysPu14_ren:={
 mixed:=by kernel_rfl
 f14:=ff_ Tryz.func84
 f16:=ff_ Tryz.func130
 f17:=ff_ Tryz.func131
 f19:=ff_ Tryz.func200
 f20:=ff_ Tryz.func201
 f21:=ff_ Tryz.func202
 f22:=ff_ Tryz.func203
 f23:=ff_ Tryz.func204
 f24:=ff_ Tryz.func205
 f25:=ff_ Tryz.func246
 f26:=ff_ Tryz.func247
 f27:=ff_ Tryz.func32
 f28:=ff_ Tryz.func64
 f29:=ff_ Tryz.func107
 f30:=ff_ Tryz.func108
 f31:=ff_ Tryz.func109
 f32:=ff_ Tryz.func110
 f33:=ff_ Tryz.func111
 f34:=ff_ Tryz.func159
 f35:=ff_ Tryz.func160
 f36:=ff_ Tryz.func161
 f37:=ff_ Tryz.func162
 f38:=ff_ Tryz.func163
 f39:=ff_ Tryz.func232
 f40:=ff_ Tryz.func233
 t0:=Tryz.underlying0
 a0:=Tryz.isAgg0
 z0:=Tryz.sizeOf0
 v0:=Tryz.zeroValue0
 i0:=by kernel_rfl
 t2:=Tryz.underlying2
 a2:=Tryz.isAgg2
 z2:=Tryz.sizeOf2
 v2:=Tryz.zeroValue2
 i2:=by kernel_rfl
 t3:=Tryz.underlying3
 a3:=Tryz.isAgg3
 z3:=Tryz.sizeOf3
 v3:=Tryz.zeroValue3
 i3:=by kernel_rfl
 t4:=Tryz.underlying4
 a4:=Tryz.isAgg4
 z4:=Tryz.sizeOf4
 v4:=Tryz.zeroValue4
 i4:=by kernel_rfl
 t5:=Tryz.underlying5
 a5:=Tryz.isAgg5
 z5:=Tryz.sizeOf5
 v5:=Tryz.zeroValue5
 i5:=by kernel_rfl
 t9:=Tryz.underlying9
 a9:=Tryz.isAgg9
 z9:=Tryz.sizeOf9
 v9:=Tryz.zeroValue9
 i9:=by kernel_rfl
 t20:=Tryz.underlying20
 a20:=Tryz.isAgg20
 z20:=Tryz.sizeOf20
 v20:=Tryz.zeroValue20
 i20:=by kernel_rfl
 t21:=Tryz.underlying21
 a21:=Tryz.isAgg21
 z21:=Tryz.sizeOf21
 v21:=Tryz.zeroValue21
 i21:=by kernel_rfl
 t22:=Tryz.underlying23
 a22:=Tryz.isAgg23
 z22:=Tryz.sizeOf23
 v22:=Tryz.zeroValue23
 i22:=by kernel_rfl
 t24:=Tryz.underlying78
 a24:=Tryz.isAgg78
 z24:=Tryz.sizeOf78
 v24:=Tryz.zeroValue78
 i24:=by kernel_rfl
 t25:=Tryz.underlying146
 a25:=Tryz.isAgg146
 z25:=Tryz.sizeOf146
 v25:=Tryz.zeroValue146
 i25:=by kernel_rfl
 t34:=Tryz.underlying239
 a34:=Tryz.isAgg239
 z34:=Tryz.sizeOf239
 v34:=Tryz.zeroValue239
 i34:=by kernel_rfl
 c34:=by kernel_rfl
 t36:=Tryz.underlying224
 a36:=Tryz.isAgg224
 z36:=Tryz.sizeOf224
 v36:=Tryz.zeroValue224
 i36:=by kernel_rfl
 t37:=Tryz.underlying51
 a37:=Tryz.isAgg51
 z37:=Tryz.sizeOf51
 v37:=Tryz.zeroValue51
 i37:=by kernel_rfl
 t39:=Tryz.underlying241
 a39:=Tryz.isAgg241
 z39:=Tryz.sizeOf241
 v39:=Tryz.zeroValue241
 i39:=by kernel_rfl
 t44:=Tryz.underlying268
 a44:=Tryz.isAgg268
 z44:=Tryz.sizeOf268
 v44:=Tryz.zeroValue268
 i44:=by kernel_rfl
 t47:=Tryz.underlying130
 a47:=Tryz.isAgg130
 z47:=Tryz.sizeOf130
 v47:=Tryz.zeroValue130
 i47:=by kernel_rfl
 t48:=Tryz.underlying289
 a48:=Tryz.isAgg289
 z48:=Tryz.sizeOf289
 v48:=Tryz.zeroValue289
 i48:=by kernel_rfl
 t50:=Tryz.underlying291
 a50:=Tryz.isAgg291
 z50:=Tryz.sizeOf291
 v50:=Tryz.zeroValue291
 i50:=by kernel_rfl
 t52:=Tryz.underlying183
 a52:=Tryz.isAgg183
 z52:=Tryz.sizeOf183
 v52:=Tryz.zeroValue183
 i52:=by kernel_rfl
 t55:=Tryz.underlying186
 a55:=Tryz.isAgg186
 z55:=Tryz.sizeOf186
 v55:=Tryz.zeroValue186
 i55:=by kernel_rfl
 t59:=Tryz.underlying221
 a59:=Tryz.isAgg221
 z59:=Tryz.sizeOf221
 v59:=Tryz.zeroValue221
 i59:=by kernel_rfl
 t60:=Tryz.underlying222
 a60:=Tryz.isAgg222
 z60:=Tryz.sizeOf222
 v60:=Tryz.zeroValue222
 i60:=by kernel_rfl
 t61:=Tryz.underlying223
 a61:=Tryz.isAgg223
 z61:=Tryz.sizeOf223
 t65:=Tryz.underlying277
 a65:=Tryz.isAgg277
 z65:=Tryz.sizeOf277
 v65:=Tryz.zeroValue277
 i65:=by kernel_rfl
 t66:=Tryz.underlying278
 a66:=Tryz.isAgg278
 z66:=Tryz.sizeOf278
 v66:=Tryz.zeroValue278
 i66:=by kernel_rfl
 t67:=Tryz.underlying84
 a67:=Tryz.isAgg84
 z67:=Tryz.sizeOf84
 v67:=Tryz.zeroValue84
 i67:=by kernel_rfl
 g0:=by kernel_rfl
 m0:=by kernel_rfl
 g1:=by kernel_rfl
 m1:=by kernel_rfl
 g2:=by kernel_rfl
 m2:=by kernel_rfl
 g3:=by kernel_rfl
 m3:=by kernel_rfl
 g4:=by kernel_rfl
 m4:=by kernel_rfl}
open Go.RowKit in
theorem Tryz.strconv_ParseUint_10_at64_ok(s:ByteArray)(hmax:s.size<=9223372036854775806)(u:Nat)(h:Lib.parseUintB 64 s.data.toList= .ok u)(w:World):
 Calls Tryz.prog 84 #[.string s,.int .i64 10,.int .i64 64] w λe w'=>e= .returned (.tuple #[.int .u64 u,.nilIface])/\(w'=w\/w'=Lib.bytesWorld w 5 s):=Any.strconv_ParseUint_10_at64_ok Tryz.laysPu14 s hmax u h w
open Go.RowKit in
theorem Tryz.strconv_ParseUint_10_at64_syntax_var(s:ByteArray)(hlim:s.size<=281474976710656)(h:Lib.parseUintB 64 s.data.toList=Lib.parseUintB 64 [])(tp:TypeId)(p:Value)(w:World)(hvar:w.var? Tryz.prog "strconv.ErrSyntax"=some #[.iface tp p]):
 Calls Tryz.prog 84 #[.string s,.int .i64 10,.int .i64 64] w λe w'=>∃N,e= .returned (.tuple #[.int .u64 0,.iface 241 (.pointer (some ⟨N,0,none⟩))])/\w.heap.size<=N/\w'.heap[N]?=some (.cells #[.string ⟨#[80,97,114,115,101,85,105,110,116]⟩,.string s,.iface tp p] 268 (0,0))/\Below w.heap.size w w':=Any.strconv_ParseUint_10_at64_syntax_var Tryz.laysPu14 s hlim h tp p w hvar
open Go.RowKit in
theorem Tryz.strconv_ParseUint_10_at64_range_var(s:ByteArray)(hlim:s.size<=281474976710656)(h:Lib.parseUintB 64 s.data.toList= .range)(tp:TypeId)(p:Value)(w:World)(hvar:w.var? Tryz.prog "strconv.ErrRange"=some #[.iface tp p]):
 Calls Tryz.prog 84 #[.string s,.int .i64 10,.int .i64 64] w λe w'=>∃N,e= .returned (.tuple #[.int .u64 18446744073709551615,.iface 241 (.pointer (some ⟨N,0,none⟩))])/\w.heap.size<=N/\w'.heap[N]?=some (.cells #[.string ⟨#[80,97,114,115,101,85,105,110,116]⟩,.string s,.iface tp p] 268 (0,0))/\Below w.heap.size w w':=Any.strconv_ParseUint_10_at64_range_var Tryz.laysPu14 s hlim h tp p w hvar
def Tryz.lays144_ren:Go.Shelf.Ren:=⟨λ|144=>270|143=>90|219=>139|217=>215|225=>216|224=>217|267=>218|266=>256|314=>257|n=>n,λ|9=>9|4=>4|3=>3|5=>5|46=>224|146=>273|51=>222|n=>n,λ|1=>0|n=>n⟩
theorem Tryz.lays144:Go.Proofs.Lays.n144 Tryz.prog Tryz.lays144_ren:={
 mixed:=by kernel_rfl
 f143:=ff_ Tryz.func90
 f144:=ff_ Tryz.func270
 f217:=ff_ Tryz.func215
 f219:=ff_ Tryz.func139
 f224:=ff_ Tryz.func217
 f225:=ff_ Tryz.func216
 f266:=ff_ Tryz.func256
 f267:=ff_ Tryz.func218
 f314:=ff_ Tryz.func257
 t3:=Tryz.underlying3
 a3:=Tryz.isAgg3
 z3:=Tryz.sizeOf3
 v3:=Tryz.zeroValue3
 t4:=Tryz.underlying4
 a4:=Tryz.isAgg4
 z4:=Tryz.sizeOf4
 v4:=Tryz.zeroValue4
 t5:=Tryz.underlying5
 a5:=Tryz.isAgg5
 z5:=Tryz.sizeOf5
 v5:=Tryz.zeroValue5
 t9:=Tryz.underlying9
 a9:=Tryz.isAgg9
 z9:=Tryz.sizeOf9
 v9:=Tryz.zeroValue9
 t46:=Tryz.underlying224
 a46:=Tryz.isAgg224
 z46:=Tryz.sizeOf224
 v46:=Tryz.zeroValue224
 t51:=Tryz.underlying222
 a51:=Tryz.isAgg222
 z51:=Tryz.sizeOf222
 v51:=Tryz.zeroValue222
 t146:=Tryz.underlying273
 a146:=Tryz.isAgg273
 z146:=Tryz.sizeOf273
 v146:=Tryz.zeroValue273
 g1:=by kernel_rfl}
open Go.RowKit Go.Lib in
theorem Tryz.strings_Contains(s sub:ByteArray)(m:Int)(w:World)(hs:s.size<4294967281)(hm:w.cell? ⟨0,0,none⟩=some (.int .i64 m)):
 Calls Tryz.prog 270 #[.string s,.string sub] w λe w'=>e= .returned (.bool (Lib.contains s.data.toList sub.data.toList))/\w'=w:=Any.strings_Contains Tryz.lays144 s sub m w hs hm
def Tryz.lays145_ren:Go.Shelf.Ren:=⟨λ|145=>83|220=>129|219=>139|217=>215|225=>216|224=>217|267=>218|266=>256|314=>257|n=>n,λ|9=>9|4=>4|59=>144|3=>3|5=>5|46=>224|146=>273|51=>222|n=>n,λ|1=>0|n=>n⟩
theorem Tryz.lays145:Go.Proofs.Lays.n145 Tryz.prog Tryz.lays145_ren:={
 mixed:=by kernel_rfl
 f145:=ff_ Tryz.func83
 f217:=ff_ Tryz.func215
 f219:=ff_ Tryz.func139
 f220:=ff_ Tryz.func129
 f224:=ff_ Tryz.func217
 f225:=ff_ Tryz.func216
 f266:=ff_ Tryz.func256
 f267:=ff_ Tryz.func218
 f314:=ff_ Tryz.func257
 t3:=Tryz.underlying3
 a3:=Tryz.isAgg3
 z3:=Tryz.sizeOf3
 v3:=Tryz.zeroValue3
 t4:=Tryz.underlying4
 a4:=Tryz.isAgg4
 z4:=Tryz.sizeOf4
 v4:=Tryz.zeroValue4
 t5:=Tryz.underlying5
 a5:=Tryz.isAgg5
 z5:=Tryz.sizeOf5
 v5:=Tryz.zeroValue5
 t9:=Tryz.underlying9
 a9:=Tryz.isAgg9
 z9:=Tryz.sizeOf9
 v9:=Tryz.zeroValue9
 t46:=Tryz.underlying224
 a46:=Tryz.isAgg224
 z46:=Tryz.sizeOf224
 v46:=Tryz.zeroValue224
 t51:=Tryz.underlying222
 a51:=Tryz.isAgg222
 z51:=Tryz.sizeOf222
 v51:=Tryz.zeroValue222
 t59:=Tryz.underlying144
 a59:=Tryz.isAgg144
 z59:=Tryz.sizeOf144
 v59:=Tryz.zeroValue144
 t146:=Tryz.underlying273
 a146:=Tryz.isAgg273
 z146:=Tryz.sizeOf273
 v146:=Tryz.zeroValue273
 g1:=by kernel_rfl}
open Go.RowKit Go.Lib in
theorem Tryz.strings_Cut(s sep:ByteArray)(m:Int)(w:World)(hs:s.size<4294967281)(hm:w.cell? ⟨0,0,none⟩=some (.int .i64 m)):
 Calls Tryz.prog 83 #[.string s,.string sep] w λe w'=>e= .returned (.tuple #[.string ⟨(Lib.cut s.data.toList sep.data.toList).1.toArray⟩,.string ⟨(Lib.cut s.data.toList sep.data.toList).2.1.toArray⟩,.bool (Lib.cut s.data.toList sep.data.toList).2.2])/\∃n,w'=w.drewN n:=Any.strings_Cut Tryz.lays145 s sep m w hs hm
def Tryz.lays138_ren:Go.Shelf.Ren:=⟨λ|138=>50|195=>88|218=>89|143=>90|219=>139|217=>215|225=>216|224=>217|267=>218|266=>256|314=>257|n=>n,λ|9=>9|3=>3|4=>4|5=>5|0=>0|46=>224|146=>273|51=>222|n=>n,λ|1=>0|n=>n⟩
theorem Tryz.lays138:Go.Proofs.Lays.n138 Tryz.prog Tryz.lays138_ren:={
 mixed:=by kernel_rfl
 f138:=ff_ Tryz.func50
 f143:=ff_ Tryz.func90
 f195:=ff_ Tryz.func88
 f217:=ff_ Tryz.func215
 f218:=ff_ Tryz.func89
 f219:=ff_ Tryz.func139
 f224:=ff_ Tryz.func217
 f225:=ff_ Tryz.func216
 f266:=ff_ Tryz.func256
 f267:=ff_ Tryz.func218
 f314:=ff_ Tryz.func257
 t0:=Tryz.underlying0
 a0:=Tryz.isAgg0
 z0:=Tryz.sizeOf0
 v0:=Tryz.zeroValue0
 t3:=Tryz.underlying3
 a3:=Tryz.isAgg3
 z3:=Tryz.sizeOf3
 v3:=Tryz.zeroValue3
 t4:=Tryz.underlying4
 a4:=Tryz.isAgg4
 z4:=Tryz.sizeOf4
 v4:=Tryz.zeroValue4
 t5:=Tryz.underlying5
 a5:=Tryz.isAgg5
 z5:=Tryz.sizeOf5
 v5:=Tryz.zeroValue5
 t9:=Tryz.underlying9
 a9:=Tryz.isAgg9
 z9:=Tryz.sizeOf9
 v9:=Tryz.zeroValue9
 t46:=Tryz.underlying224
 a46:=Tryz.isAgg224
 z46:=Tryz.sizeOf224
 v46:=Tryz.zeroValue224
 t51:=Tryz.underlying222
 a51:=Tryz.isAgg222
 z51:=Tryz.sizeOf222
 v51:=Tryz.zeroValue222
 t146:=Tryz.underlying273
 a146:=Tryz.isAgg273
 z146:=Tryz.sizeOf273
 v146:=Tryz.zeroValue273
 g1:=by kernel_rfl}
open Go.RowKit Go.Lib in
def Tryz.lays99_ren:Go.Shelf.Ren:=⟨λ|99=>253|206=>276|n=>n,λ|9=>9|4=>4|3=>3|n=>n,λ|n=>n⟩
theorem Tryz.lays99:Go.Proofs.Lays.n99 Tryz.prog Tryz.lays99_ren:={
 mixed:=by kernel_rfl
 f99:=ff_ Tryz.func253
 f206:=ff_ Tryz.func276
 t3:=Tryz.underlying3
 a3:=Tryz.isAgg3
 z3:=Tryz.sizeOf3
 v3:=Tryz.zeroValue3
 t4:=Tryz.underlying4
 a4:=Tryz.isAgg4
 z4:=Tryz.sizeOf4
 v4:=Tryz.zeroValue4
 t9:=Tryz.underlying9
 a9:=Tryz.isAgg9
 z9:=Tryz.sizeOf9
 v9:=Tryz.zeroValue9}
open Go.RowKit Go.Lib in
theorem Tryz.strings_HasPrefix(s p:ByteArray)(w:World):
 Calls Tryz.prog 253 #[.string s,.string p] w λe w'=>e= .returned (.bool (Lib.hasPrefix s.data.toList p.data.toList))/\w'=w:=Any.strings_HasPrefix Tryz.lays99 s p w
def Tryz.lays146_ren:Go.Shelf.Ren:=⟨λ|146=>45|221=>82|268=>128|138=>50|143=>90|195=>88|197=>199|218=>89|219=>139|260=>245|217=>215|225=>216|224=>217|267=>218|266=>256|314=>257|n=>n,λ|9=>9|31=>67|3=>3|4=>4|0=>0|105=>237|21=>21|5=>5|46=>224|119=>285|139=>288|138=>287|146=>273|51=>222|n=>n,λ|1=>0|3=>7|4=>8|n=>n⟩
theorem Tryz.lays146:Go.Proofs.Lays.n146 Tryz.prog Tryz.lays146_ren:={
 mixed:=by kernel_rfl
 f138:=ff_ Tryz.func50
 f143:=ff_ Tryz.func90
 f146:=ff_ Tryz.func45
 f195:=ff_ Tryz.func88
 f197:=ff_ Tryz.func199
 f217:=ff_ Tryz.func215
 f218:=ff_ Tryz.func89
 f219:=ff_ Tryz.func139
 f221:=ff_ Tryz.func82
 f224:=ff_ Tryz.func217
 f225:=ff_ Tryz.func216
 f260:=ff_ Tryz.func245
 f266:=ff_ Tryz.func256
 f267:=ff_ Tryz.func218
 f268:=ff_ Tryz.func128
 f314:=ff_ Tryz.func257
 t0:=Tryz.underlying0
 a0:=Tryz.isAgg0
 z0:=Tryz.sizeOf0
 v0:=Tryz.zeroValue0
 t3:=Tryz.underlying3
 a3:=Tryz.isAgg3
 z3:=Tryz.sizeOf3
 v3:=Tryz.zeroValue3
 t4:=Tryz.underlying4
 a4:=Tryz.isAgg4
 z4:=Tryz.sizeOf4
 v4:=Tryz.zeroValue4
 t5:=Tryz.underlying5
 a5:=Tryz.isAgg5
 z5:=Tryz.sizeOf5
 v5:=Tryz.zeroValue5
 t9:=Tryz.underlying9
 a9:=Tryz.isAgg9
 z9:=Tryz.sizeOf9
 v9:=Tryz.zeroValue9
 t21:=Tryz.underlying21
 a21:=Tryz.isAgg21
 z21:=Tryz.sizeOf21
 v21:=Tryz.zeroValue21
 t31:=Tryz.underlying67
 a31:=Tryz.isAgg67
 z31:=Tryz.sizeOf67
 v31:=Tryz.zeroValue67
 t46:=Tryz.underlying224
 a46:=Tryz.isAgg224
 z46:=Tryz.sizeOf224
 v46:=Tryz.zeroValue224
 t51:=Tryz.underlying222
 a51:=Tryz.isAgg222
 z51:=Tryz.sizeOf222
 v51:=Tryz.zeroValue222
 t105:=Tryz.underlying237
 a105:=Tryz.isAgg237
 z105:=Tryz.sizeOf237
 v105:=Tryz.zeroValue237
 t119:=Tryz.underlying285
 a119:=Tryz.isAgg285
 z119:=Tryz.sizeOf285
 t138:=Tryz.underlying287
 a138:=Tryz.isAgg287
 z138:=Tryz.sizeOf287
 v138:=Tryz.zeroValue287
 t139:=Tryz.underlying288
 a139:=Tryz.isAgg288
 z139:=Tryz.sizeOf288
 v139:=Tryz.zeroValue288
 t146:=Tryz.underlying273
 a146:=Tryz.isAgg273
 z146:=Tryz.sizeOf273
 v146:=Tryz.zeroValue273
 g1:=by kernel_rfl
 g3:=by kernel_rfl
 g4:=by kernel_rfl}
open Go.RowKit Go.Lib in
theorem Tryz.strings_Split(s sep:ByteArray)(m:Int)(w:World)(hs:s.size<4294967281)(hm:w.cell? ⟨0,0,none⟩=some (.int .i64 m))(h1:1<=sep.size):
 Calls Tryz.prog 45 #[.string s,.string sep] w λe w'=>
  e= .returned (.slice (some ⟨w.heap.size,0,none⟩) (Lib.countB s sep+1) (Lib.countB s sep+1))/\w'=w.alloc (.cells ((Lib.splitB sep 0 (Lib.countB s sep) s).map Value.string).toArray 9):=Any.strings_Split Tryz.lays146 (by kernel_rfl) s sep m w hs hm h1
def Tryz.lays105_ren:Go.Shelf.Ren:=⟨λ|105=>234|212=>261|99=>253|165=>81|166=>31|170=>262|169=>35|263=>285|264=>286|206=>276|240=>63|241=>127|276=>106|277=>198|n=>n,λ|9=>9|3=>3|4=>4|20=>20|0=>0|46=>224|109=>279|5=>5|72=>58|76=>79|51=>222|146=>273|53=>23|148=>306|70=>56|37=>51|75=>78|127=>130|164=>180|80=>84|n=>n,λ|n=>n⟩
theorem Tryz.lays105:Go.Proofs.Lays.n105 Tryz.prog Tryz.lays105_ren:={
 mixed:=by kernel_rfl
 f99:=ff_ Tryz.func253
 f105:=ff_ Tryz.func234
 f165:=ff_ Tryz.func81
 f166:=ff_ Tryz.func31
 f169:=ff_ Tryz.func35
 f170:=ff_ Tryz.func262
 f206:=ff_ Tryz.func276
 f212:=ff_ Tryz.func261
 f240:=ff_ Tryz.func63
 f241:=ff_ Tryz.func127
 f263:=ff_ Tryz.func285
 f264:=ff_ Tryz.func286
 f276:=ff_ Tryz.func106
 f277:=ff_ Tryz.func198
 t0:=Tryz.underlying0
 a0:=Tryz.isAgg0
 z0:=Tryz.sizeOf0
 v0:=Tryz.zeroValue0
 t3:=Tryz.underlying3
 a3:=Tryz.isAgg3
 z3:=Tryz.sizeOf3
 v3:=Tryz.zeroValue3
 t4:=Tryz.underlying4
 a4:=Tryz.isAgg4
 z4:=Tryz.sizeOf4
 v4:=Tryz.zeroValue4
 t5:=Tryz.underlying5
 a5:=Tryz.isAgg5
 z5:=Tryz.sizeOf5
 v5:=Tryz.zeroValue5
 t9:=Tryz.underlying9
 a9:=Tryz.isAgg9
 z9:=Tryz.sizeOf9
 v9:=Tryz.zeroValue9
 t20:=Tryz.underlying20
 a20:=Tryz.isAgg20
 z20:=Tryz.sizeOf20
 v20:=Tryz.zeroValue20
 t37:=Tryz.underlying51
 a37:=Tryz.isAgg51
 z37:=Tryz.sizeOf51
 v37:=Tryz.zeroValue51
 t46:=Tryz.underlying224
 a46:=Tryz.isAgg224
 z46:=Tryz.sizeOf224
 v46:=Tryz.zeroValue224
 t51:=Tryz.underlying222
 a51:=Tryz.isAgg222
 z51:=Tryz.sizeOf222
 v51:=Tryz.zeroValue222
 t53:=Tryz.underlying23
 a53:=Tryz.isAgg23
 z53:=Tryz.sizeOf23
 v53:=Tryz.zeroValue23
 t70:=Tryz.underlying56
 a70:=Tryz.isAgg56
 z70:=Tryz.sizeOf56
 v70:=Tryz.zeroValue56
 t72:=Tryz.underlying58
 a72:=Tryz.isAgg58
 z72:=Tryz.sizeOf58
 v72:=Tryz.zeroValue58
 t75:=Tryz.underlying78
 a75:=Tryz.isAgg78
 z75:=Tryz.sizeOf78
 v75:=Tryz.zeroValue78
 t76:=Tryz.underlying79
 a76:=Tryz.isAgg79
 z76:=Tryz.sizeOf79
 v76:=Tryz.zeroValue79
 t109:=Tryz.underlying279
 a109:=Tryz.isAgg279
 z109:=Tryz.sizeOf279
 v109:=Tryz.zeroValue279
 t127:=Tryz.underlying130
 a127:=Tryz.isAgg130
 z127:=Tryz.sizeOf130
 v127:=Tryz.zeroValue130
 t146:=Tryz.underlying273
 a146:=Tryz.isAgg273
 z146:=Tryz.sizeOf273
 v146:=Tryz.zeroValue273
 t148:=Tryz.underlying306
 a148:=Tryz.isAgg306
 z148:=Tryz.sizeOf306
 v148:=Tryz.zeroValue306
 t164:=Tryz.underlying180
 a164:=Tryz.isAgg180
 z164:=Tryz.sizeOf180
 v164:=Tryz.zeroValue180}
theorem Tryz.Builder_Extra_105:Builder.Extra Tryz.prog Tryz.lays105_ren:={
 sizeBuilder:=by kernel_rfl
 liesBuilder:=by kernel_rfl
 t5:=Tryz.underlying5
 a5:=Tryz.isAgg5
 z5:=Tryz.sizeOf5
 v5:=Tryz.zeroValue5
 infoByte:=by kernel_rfl
 cellsByte:=by kernel_rfl
 sizeByte:=by kernel_rfl
 neB5:=by decide}
open Go.RowKit Go.Lib in
theorem Tryz.strings_Repeat(s:ByteArray)(c:Nat)(w:World)(hc:c<=9223372036854775807)(hlen:s.size*c<=140737488355328):
 Calls Tryz.prog 234 #[.string s,.int .i64 c] w λe w'=>e= .returned (.string ⟨(Lib.repeatL s.data.toList c).toArray⟩)/\Below w.heap.size w w':=Any.strings_Repeat Tryz.lays105 Tryz.Builder_Extra_105 s c w hc hlen
def Tryz.lays110_ren:Go.Shelf.Ren:=⟨λ|110=>271|109=>290|n=>n,λ|31=>67|9=>9|4=>4|3=>3|0=>0|n=>n,λ|n=>n⟩
theorem Tryz.lays110:Go.Proofs.Lays.n110 Tryz.prog Tryz.lays110_ren:={
 mixed:=by kernel_rfl
 f109:=ff_ Tryz.func290
 f110:=ff_ Tryz.func271
 t0:=Tryz.underlying0
 a0:=Tryz.isAgg0
 z0:=Tryz.sizeOf0
 v0:=Tryz.zeroValue0
 t3:=Tryz.underlying3
 a3:=Tryz.isAgg3
 z3:=Tryz.sizeOf3
 v3:=Tryz.zeroValue3
 t4:=Tryz.underlying4
 a4:=Tryz.isAgg4
 z4:=Tryz.sizeOf4
 v4:=Tryz.zeroValue4
 t9:=Tryz.underlying9
 a9:=Tryz.isAgg9
 z9:=Tryz.sizeOf9
 v9:=Tryz.zeroValue9
 t31:=Tryz.underlying67
 a31:=Tryz.isAgg67
 z31:=Tryz.sizeOf67
 v31:=Tryz.zeroValue67}
open Go.Lib in
theorem Tryz.slices_Contains_string(b off n c:Nat)(zs:List ByteArray)(x:ByteArray)(w:World)(hz:n<=zs.length)(hbig:n<=9223372036854775807)(hc:∀j,j<zs.length->w.cell? ⟨b,off+j,none⟩=some (.string (zs.getD j ByteArray.empty))):
 Calls Tryz.prog 271 #[.slice (some ⟨b,off,none⟩) n c,.string x] w λe w'=>e= .returned (.bool (Lib.containsS (zs.take n) x))/\w'=w:=Any.slices_Contains_string Tryz.lays110 b off n c zs x w hz hbig hc
open Go.Lib in
def Tryz.laysBS_ren:Go.Shelf.Ren:=⟨λ|26=>289|33=>297|34=>298|38=>304|n=>n,λ|24=>67|9=>9|3=>3|4=>4|40=>224|0=>0|n=>n,λ|n=>n⟩
theorem Tryz.laysBS:Go.Proofs.Lays2.n26 Tryz.prog Tryz.laysBS_ren:={
 mixed:=by kernel_rfl
 f26:=ff_ Tryz.func289
 f33:=ff_ Tryz.func297
 f34:=ff_ Tryz.func298
 f38:=ff_ Tryz.func304
 t0:=Tryz.underlying0
 a0:=Tryz.isAgg0
 z0:=Tryz.sizeOf0
 v0:=Tryz.zeroValue0
 t3:=Tryz.underlying3
 a3:=Tryz.isAgg3
 z3:=Tryz.sizeOf3
 v3:=Tryz.zeroValue3
 t4:=Tryz.underlying4
 a4:=Tryz.isAgg4
 z4:=Tryz.sizeOf4
 v4:=Tryz.zeroValue4
 t9:=Tryz.underlying9
 a9:=Tryz.isAgg9
 z9:=Tryz.sizeOf9
 v9:=Tryz.zeroValue9
 t24:=Tryz.underlying67
 a24:=Tryz.isAgg67
 z24:=Tryz.sizeOf67
 v24:=Tryz.zeroValue67
 t40:=Tryz.underlying224
 a40:=Tryz.isAgg224
 z40:=Tryz.sizeOf224
 v40:=Tryz.zeroValue224}
end
section
open Go.RowKit
variable{B:Nat}{w w':World}
def syL:List ByteArray:=[⟨#[33,61]⟩,⟨#[37]⟩,⟨#[40]⟩,⟨#[41]⟩,⟨#[42]⟩,⟨#[43]⟩,⟨#[44]⟩,⟨#[45]⟩,⟨#[46]⟩,⟨#[47]⟩,⟨#[59]⟩,⟨#[60]⟩,⟨#[60,61]⟩,⟨#[61]⟩,⟨#[61,61]⟩,⟨#[62]⟩,⟨#[62,61]⟩,⟨#[123]⟩,⟨#[125]⟩]
structure GlB(w:World)(B:Nat):Prop where
 mx:∃m,w.cell? ⟨0,0,none⟩=some (.int .i64 m)
 tab:Lib.TabIs Tryz.prog w "internal/strconv.uint64pow10" .u64 Lib.pow10Tab
 syn:∃tp p,w.var? Tryz.prog "strconv.ErrSyntax"=some #[.iface tp p]
 rng:∃tp p,w.var? Tryz.prog "strconv.ErrRange"=some #[.iface tp p]
 kw:∃A c,w.cell? ⟨11,0,none⟩=some (.slice A 24 c)/\Strs w B A 24 kwL
 sy:∃A c,w.cell? ⟨9,0,none⟩=some (.slice A 19 c)/\Strs w B A 19 syL
 big:12<=B
 le:B<=w.heap.size
theorem kC:Tryz.prog.globals.size=12:=by kernel_rfl
theorem ke{nm:String}{cs:Array Value}(h:w.var? Tryz.prog nm=some cs)(hb:Below B w w')(hB:12<=B):w'.var? Tryz.prog nm=some cs:=by
 unfold World.var? at*
 cases hg:Tryz.prog.globalNamed nm with
 |none=>rw[hg]at h;cases h
 |some g=>
  rw[hg]at h;simp only[Option.bind_some]at h⊢
  have hlt:g<12:=by
   unfold Program.globalNamed at hg;split at hg
   ·rename_i g' hf;simp only[Option.some.injEq]at hg;subst hg;have:g'∈(List.range Tryz.prog.globals.size).filter λg=>(Tryz.prog.globals[g]?).any (·.name==nm):=by rw[hf];simp
    have h2:=FC.1 (List.mem_filter.1 this).1;rwa[kC]at h2
   ·cases hg
  rw[hb.block g (by omega)];exact h
theorem GlB.below(h:GlB w B)(hb:Below B w w'):GlB w' B:=by
 obtain⟨A,c,k1,k2⟩:=h.kw;obtain⟨A2,c2,s1,s2⟩:=h.sy;obtain⟨t1,p1,e1⟩:=h.syn;obtain⟨t2,p2,e2⟩:=h.rng;obtain⟨m,hm⟩:=h.mx;have h10:=h.big
 exact⟨⟨m,(ab hb (by omega) 0).trans hm⟩,ke h.tab hb h10,⟨t1,p1,ke e1 hb h10⟩,⟨t2,p2,ke e2 hb h10⟩,
  ⟨A,c,(ab hb (by omega) 0).trans k1,k2.below hb⟩,⟨A2,c2,(ab hb (by omega) 0).trans s1,s2.below hb⟩,h10,Ek h.le hb.size⟩
theorem GlB.more{B':Nat}(h:GlB w B)(hB:B<=B')(hw:B'<=w.heap.size):GlB w B':=by
 obtain⟨A,c,k1,k2⟩:=h.kw;obtain⟨A2,c2,s1,s2⟩:=h.sy;exact⟨h.mx,h.tab,h.syn,h.rng,⟨A,c,k1,k2.more hB⟩,⟨A2,c2,s1,s2.more hB⟩,Ek h.big hB,hw⟩
def Gl(w:World):Prop:=GlB w w.heap.size
theorem GlB.gl(h:GlB w B):Gl w:=h.more h.le (DK _)
theorem Gl.below(h:Gl w)(hb:Below w.heap.size w w'):Gl w':=(GlB.below h hb).gl
theorem oH(n:Int)(w:World)(hn:I64 n)(hg:Gl w):Calls Tryz.prog 32 #[.int .i64 n] w λe w'=>e= .returned (.string (du n))/\Below w.heap.size w w':=
 (Tryz.strconv_Itoa n hn.1 hn.2 w (GlB.tab hg)).mono λe w' ⟨h1,k,os,h2⟩=>⟨h1,by rw[h2];exact Lib.below_grow _ w (DK _) k os⟩
theorem mK(n:Int)(w:World)(hn:I64 n)(hg:Gl w):Calls Tryz.prog 193 #[.int .i64 n,.int .i64 10] w λe w'=>e= .returned (.string (du n))/\Below w.heap.size w w':=
 (Tryz.strconv_FormatInt_10 n hn.1 hn.2 w (GlB.tab hg)).mono λe w' ⟨h1,k,os,h2⟩=>⟨h1,by rw[h2];exact Lib.below_grow _ w (DK _) k os⟩
def dj(s:ByteArray):Int:=match Lib.parseIntB 64 s.data.toList with| .ok v=>v| .range=>Lib.intSat 64 s.data.toList|_=>0
def bY(s:ByteArray):Bool:=match Lib.parseIntB 64 s.data.toList with| .ok v=>(du v).toList==s.toList|_=>false
theorem jg(s:ByteArray)(v:Int)(w:World)(hs:s.size<=1000000)(h:Lib.parseIntB 64 s.data.toList= .ok v):
 Calls Tryz.prog 242 #[.string s,.int .i64 10,.int .i64 64] w λe w'=>e= .returned (.tuple #[.int .i64 v,.nilIface])/\Below w.heap.size w w':=
 (Tryz.strconv_ParseInt_10_at64_ok s (by omega) v h w).mono λe w' ⟨h1,h2⟩=>⟨h1,by
   rcases h2 with rfl|⟨t,rfl⟩
   ·exact DN _ _
   ·exact Lib.bytesWorld_below w 5 t⟩
theorem jh(s:ByteArray)(w:World)(hg:Gl w)(hs:s.size<=1000000)(h:∀v,Lib.parseIntB 64 s.data.toList≠ .ok v):
 Calls Tryz.prog 242 #[.string s,.int .i64 10,.int .i64 64] w λe w'=>∃N,e= .returned (.tuple #[.int .i64 (dj s),.iface 241 (.pointer (some ⟨N,0,none⟩))])/\Below w.heap.size w w':=by
 unfold dj;rcases hp:Lib.parseIntB 64 s.data.toList with v|_|_
 ·exact absurd hp (h v)
 ·obtain⟨tp,p,e1⟩:=GlB.syn hg;exact(Tryz.strconv_ParseInt_10_at64_syntax_var s (by omega) (hp.trans rfl) tp p w e1).mono λe w' ⟨N,h1,_,_,h2⟩=>⟨N,h1,h2⟩
 ·obtain⟨tp,p,e1⟩:=GlB.rng hg;exact(Tryz.strconv_ParseInt_10_at64_range_var s (by omega) hp tp p w e1).mono λe w' ⟨N,h1,_,_,h2⟩=>⟨N,h1,h2⟩
theorem wQ(s:ByteArray)(w:World)(hg:Gl w)(hs:s.size<=1000000)(hI:∀v,Lib.parseIntB 64 s.data.toList= .ok v->I64 v):
 Calls Tryz.prog 176 #[.string s] w λe w'=>e= .returned (.tuple #[.int .i64 (dj s),.bool (bY s)])/\Below w.heap.size w w':=by
 by_cases h:∃v,Lib.parseIntB 64 s.data.toList= .ok v
 ·obtain⟨v,hv⟩:=h;have hnv:dj s=v:=by unfold dj;rw[hv]
  have hno:bY s=((du v).toList==s.toList):=by unfold bY;rw[hv]
  rw[hnv,hno];have HC:=H_ (jg s v w hs hv);have HI:=H_ (hI v hv);have HG:=H_ hg;clear hnv hno hv hI hg;go_enter Tryz.func176,Tryz.ntmps176;go_wp2_with fail;refine HC.out.mono ?_;rintro e w1 ⟨rfl,b1⟩;go_wp2_with fail;refine(mK _ _ HI.out (HG.out.below b1)).mono ?_;rintro e w2 ⟨rfl,b2⟩;go_wp2_with fail;go_ret2;exact⟨rfl,b1.trans (b2.mono b1.size)⟩
 ·have hno:bY s=false:=by
   unfold bY;split
   ·rename_i v hv;exact absurd ⟨v,hv⟩ h
   ·rfl
  rw[hno];have HC:=H_ (jh s w hg hs λv hv=>h ⟨v,hv⟩);clear hno hI h hg;go_enter Tryz.func176,Tryz.ntmps176;go_wp2_with fail;refine HC.out.mono ?_;rintro e w1 ⟨N,rfl,b1⟩;go_wp2_with fail;go_ret2;exact⟨rfl,b1⟩
def fnv(f:Nat):Value:= .func (.func f) #[] #[]
theorem iH(g:Nat)(w:World):Calls Tryz.prog 120 #[.pointer (some ⟨g,0,none⟩)] w λe w'=>e= .returned (.pointer (some ⟨g,1,none⟩))/\w'=w:=by
 go_enter Tryz.func120,Tryz.ntmps120;go_wp2;go_ret;exact⟨rfl,rfl⟩
theorem iG(g:Nat)(w:World):Calls Tryz.prog 121 #[.pointer (some ⟨g,0,none⟩)] w λe w'=>e= .returned (.pointer (some ⟨g,2,none⟩))/\w'=w:=by
 go_enter Tryz.func121,Tryz.ntmps121;go_wp2;go_ret;exact⟨rfl,rfl⟩
theorem jS(g:Nat)(w:World):Calls Tryz.prog 123 #[.pointer (some ⟨g,0,none⟩)] w λe w'=>e= .returned (.pointer (some ⟨g,3,none⟩))/\w'=w:=by
 go_enter Tryz.func123,Tryz.ntmps123;go_wp2;go_ret;exact⟨rfl,rfl⟩
theorem jR(g:Nat)(w:World):Calls Tryz.prog 124 #[.pointer (some ⟨g,0,none⟩)] w λe w'=>e= .returned (.pointer (some ⟨g,4,none⟩))/\w'=w:=by
 go_enter Tryz.func124,Tryz.ntmps124;go_wp2;go_ret;exact⟨rfl,rfl⟩
theorem wU(v:Av)(b0 b1 b2:Nat)(lo hi:Int)(w:World)(h0:Blk w b0 194 #[fnv 120])(h1:Blk w b1 3 #[.int .i64 lo])(h2:Blk w b2 3 #[.int .i64 hi]):
 Calls Tryz.prog 178 #[.agg v.cells,.pointer (some ⟨b0,0,none⟩),.pointer (some ⟨b1,0,none⟩),.pointer (some ⟨b2,0,none⟩)] w λe w'=>e= .returned (.bool (decide (lo<=v.a)&&decide (v.a<=hi)))/\Below w.heap.size w w':=by
 unfold Av.cells;have c0:(w.alloc (.cells #[.int .i64 v.k,.int .i64 v.a,.int .i64 v.b,.string v.nm,.string v.mt,.slice v.A v.n v.c,.slice v.A2 v.n2 v.c2] 48)).cell? ⟨b0,0,none⟩=some (.func (.func 120) #[] #[]):=(h0.alloc _).cell 0;have c1:(w.alloc (.cells #[.int .i64 v.k,.int .i64 v.a,.int .i64 v.b,.string v.nm,.string v.mt,.slice v.A v.n v.c,.slice v.A2 v.n2 v.c2] 48)).cell? ⟨b1,0,none⟩=some (.int .i64 lo):=(h1.alloc _).cell 0;have c2:(w.alloc (.cells #[.int .i64 v.k,.int .i64 v.a,.int .i64 v.b,.string v.nm,.string v.mt,.slice v.A v.n v.c,.slice v.A2 v.n2 v.c2] 48)).cell? ⟨b2,0,none⟩=some (.int .i64 hi):=(h2.alloc _).cell 0;have c3:(w.alloc (.cells #[.int .i64 v.k,.int .i64 v.a,.int .i64 v.b,.string v.nm,.string v.mt,.slice v.A v.n v.c,.slice v.A2 v.n2 v.c2] 48)).cell? ⟨w.heap.size,1,none⟩=some (.int .i64 v.a):=(Blk.new w 48 _).cell 1;have hbel:Below w.heap.size w (w.alloc (.cells #[.int .i64 v.k,.int .i64 v.a,.int .i64 v.b,.string v.nm,.string v.mt,.slice v.A v.n v.c,.slice v.A2 v.n2 v.c2] 48)):=(DN _ _).alloc (DK _) _;clear h0 h1 h2;have HB:=H_ hbel;clear hbel;by_cases hlo:lo<=v.a
 ·have d1:decide (lo<=v.a)=true:=by simpa using hlo
  by_cases hhi:v.a<=hi
  all_goals
   go_enter Tryz.func178,Tryz.ntmps178;go_upto_region 1 with(fail);generalize w.alloc (.cells #[.int .i64 v.k,.int .i64 v.a,.int .i64 v.b,.string v.nm,.string v.mt,.slice v.A v.n v.c,.slice v.A2 v.n2 v.c2] 48)=W at*
   go_quiet ((go_at_call 120;exact FH (iH _ _)));go_wp2;go_ret;exact⟨aa (by simp[hlo,hhi]),aT HB.out nq⟩
 ·have d1:decide (lo<=v.a)=false:=by simpa using hlo
  go_enter Tryz.func178,Tryz.ntmps178;go_upto_region 1 with(fail);generalize w.alloc (.cells #[.int .i64 v.k,.int .i64 v.a,.int .i64 v.b,.string v.nm,.string v.mt,.slice v.A v.n v.c,.slice v.A2 v.n2 v.c2] 48)=W at*
  go_quiet ((go_at_call 120;exact FH (iH _ _)));go_wp2;go_ret;exact⟨aa (by simp[hlo]),aT HB.out nq⟩
theorem wS(L:Nat)(cs:Array Value)(b0:Nat)(w:World)(h0:Blk w b0 194 #[fnv 120])(hL:Blk w L 48 cs)(hx:1<cs.size):
 Calls Tryz.prog 179 #[.pointer (some ⟨L,0,none⟩),.pointer (some ⟨b0,0,none⟩)] w λe w'=>e= .returned (.tuple #[])/\w.setCell ⟨L,1,none⟩ (.int .i64 0)=w':=by
 have c0:w.cell? ⟨b0,0,none⟩=some (.func (.func 120) #[] #[]):=h0.cell 0;obtain⟨u,hu⟩:∃u,w.cell? ⟨L,1,none⟩=some u:=⟨cs[1],by rw[hL.cell,Eq hx]⟩;have f0:=hL.frozen 1;clear h0 hL hx;go_enter Tryz.func179,Tryz.ntmps179;go_wp2_with (go_at_call 120;refine(iH _ _).mono ?_;rintro e w1 ⟨rfl,rfl⟩);go_end0;exact⟨rfl,rfl⟩
theorem wW(v:Av)(b0:Nat)(w:World)(hg:Gl w)(hx:I64 v.a)(h0:Blk w b0 194 #[fnv 120]):
 Calls Tryz.prog 177 #[.agg v.cells,.pointer (some ⟨b0,0,none⟩)] w λe w'=>∃g,e= .returned (.slice (some ⟨g,0,none⟩) 1 1)/\Strs w' w'.heap.size (some ⟨g,0,none⟩) 1 [du v.a]/\Below w.heap.size w w':=by
 unfold Av.cells;have c0:(w.alloc (.cells #[.int .i64 v.k,.int .i64 v.a,.int .i64 v.b,.string v.nm,.string v.mt,.slice v.A v.n v.c,.slice v.A2 v.n2 v.c2] 48)).cell? ⟨b0,0,none⟩=some (.func (.func 120) #[] #[]):=(h0.alloc _).cell 0;have c3:(w.alloc (.cells #[.int .i64 v.k,.int .i64 v.a,.int .i64 v.b,.string v.nm,.string v.mt,.slice v.A v.n v.c,.slice v.A2 v.n2 v.c2] 48)).cell? ⟨w.heap.size,1,none⟩=some (.int .i64 v.a):=(Blk.new w 48 _).cell 1;have hbel:Below w.heap.size w (w.alloc (.cells #[.int .i64 v.k,.int .i64 v.a,.int .i64 v.b,.string v.nm,.string v.mt,.slice v.A v.n v.c,.slice v.A2 v.n2 v.c2] 48)):=(DN _ _).alloc (DK _) _;have HG:=H_ (hg.below hbel);have HX:=H_ hx;have HB:=H_ hbel;clear h0 hg hx hbel;go_enter Tryz.func177,Tryz.ntmps177;go_upto_region 1 with(fail);generalize w.alloc (.cells #[.int .i64 v.k,.int .i64 v.a,.int .i64 v.b,.string v.nm,.string v.mt,.slice v.A v.n v.c,.slice v.A2 v.n2 v.c2] 48)=W at*
 go_wp2_with (first
  |(go_at_call 120;refine(iH _ _).mono ?_;rintro e w1 ⟨rfl,rfl⟩)
  |(go_at_call 32;refine(oH _ _ HX.out HG.out).mono ?_;rintro e w2 ⟨rfl,b2⟩;have HB2:=htr HB b2;clear b2))
 go_ret;exact⟨_,rfl,Strs.aJ (ss:=[du v.a]) (Blk.new _ 9 _) (by simp),HB2.out.alloc HB2.out.size _⟩
theorem wT(v:Av)(b0 b1 b2:Nat)(lo hi:Int)(w:World)(h0:Blk w b0 194 #[fnv 121])(h1:Blk w b1 3 #[.int .i64 lo])(h2:Blk w b2 3 #[.int .i64 hi]):
 Calls Tryz.prog 178 #[.agg v.cells,.pointer (some ⟨b0,0,none⟩),.pointer (some ⟨b1,0,none⟩),.pointer (some ⟨b2,0,none⟩)] w λe w'=>e= .returned (.bool (decide (lo<=v.b)&&decide (v.b<=hi)))/\Below w.heap.size w w':=by
 unfold Av.cells;have c0:(w.alloc (.cells #[.int .i64 v.k,.int .i64 v.a,.int .i64 v.b,.string v.nm,.string v.mt,.slice v.A v.n v.c,.slice v.A2 v.n2 v.c2] 48)).cell? ⟨b0,0,none⟩=some (.func (.func 121) #[] #[]):=(h0.alloc _).cell 0;have c1:(w.alloc (.cells #[.int .i64 v.k,.int .i64 v.a,.int .i64 v.b,.string v.nm,.string v.mt,.slice v.A v.n v.c,.slice v.A2 v.n2 v.c2] 48)).cell? ⟨b1,0,none⟩=some (.int .i64 lo):=(h1.alloc _).cell 0;have c2:(w.alloc (.cells #[.int .i64 v.k,.int .i64 v.a,.int .i64 v.b,.string v.nm,.string v.mt,.slice v.A v.n v.c,.slice v.A2 v.n2 v.c2] 48)).cell? ⟨b2,0,none⟩=some (.int .i64 hi):=(h2.alloc _).cell 0;have c3:(w.alloc (.cells #[.int .i64 v.k,.int .i64 v.a,.int .i64 v.b,.string v.nm,.string v.mt,.slice v.A v.n v.c,.slice v.A2 v.n2 v.c2] 48)).cell? ⟨w.heap.size,2,none⟩=some (.int .i64 v.b):=(Blk.new w 48 _).cell 2;have hbel:Below w.heap.size w (w.alloc (.cells #[.int .i64 v.k,.int .i64 v.a,.int .i64 v.b,.string v.nm,.string v.mt,.slice v.A v.n v.c,.slice v.A2 v.n2 v.c2] 48)):=(DN _ _).alloc (DK _) _;clear h0 h1 h2;have HB:=H_ hbel;clear hbel;by_cases hlo:lo<=v.b
 ·have d1:decide (lo<=v.b)=true:=by simpa using hlo
  by_cases hhi:v.b<=hi
  all_goals
   go_enter Tryz.func178,Tryz.ntmps178;go_upto_region 1 with(fail);generalize w.alloc (.cells #[.int .i64 v.k,.int .i64 v.a,.int .i64 v.b,.string v.nm,.string v.mt,.slice v.A v.n v.c,.slice v.A2 v.n2 v.c2] 48)=W at*
   go_quiet ((go_at_call 121;exact FH (iG _ _)));go_wp2;go_ret;exact⟨aa (by simp[hlo,hhi]),aT HB.out nq⟩
 ·have d1:decide (lo<=v.b)=false:=by simpa using hlo
  go_enter Tryz.func178,Tryz.ntmps178;go_upto_region 1 with(fail);generalize w.alloc (.cells #[.int .i64 v.k,.int .i64 v.a,.int .i64 v.b,.string v.nm,.string v.mt,.slice v.A v.n v.c,.slice v.A2 v.n2 v.c2] 48)=W at*
  go_quiet ((go_at_call 121;exact FH (iG _ _)));go_wp2;go_ret;exact⟨aa (by simp[hlo]),aT HB.out nq⟩
theorem wR(L:Nat)(cs:Array Value)(b0:Nat)(w:World)(h0:Blk w b0 194 #[fnv 121])(hL:Blk w L 48 cs)(hx:2<cs.size):
 Calls Tryz.prog 179 #[.pointer (some ⟨L,0,none⟩),.pointer (some ⟨b0,0,none⟩)] w λe w'=>e= .returned (.tuple #[])/\w.setCell ⟨L,2,none⟩ (.int .i64 0)=w':=by
 have c0:w.cell? ⟨b0,0,none⟩=some (.func (.func 121) #[] #[]):=h0.cell 0;obtain⟨u,hu⟩:∃u,w.cell? ⟨L,2,none⟩=some u:=⟨cs[2],by rw[hL.cell,Eq hx]⟩;have f0:=hL.frozen 2;clear h0 hL hx;go_enter Tryz.func179,Tryz.ntmps179;go_wp2_with (go_at_call 121;refine(iG _ _).mono ?_;rintro e w1 ⟨rfl,rfl⟩);go_end0;exact⟨rfl,rfl⟩
theorem wV(v:Av)(b0:Nat)(w:World)(hg:Gl w)(hx:I64 v.b)(h0:Blk w b0 194 #[fnv 121]):
 Calls Tryz.prog 177 #[.agg v.cells,.pointer (some ⟨b0,0,none⟩)] w λe w'=>∃g,e= .returned (.slice (some ⟨g,0,none⟩) 1 1)/\Strs w' w'.heap.size (some ⟨g,0,none⟩) 1 [du v.b]/\Below w.heap.size w w':=by
 unfold Av.cells;have c0:(w.alloc (.cells #[.int .i64 v.k,.int .i64 v.a,.int .i64 v.b,.string v.nm,.string v.mt,.slice v.A v.n v.c,.slice v.A2 v.n2 v.c2] 48)).cell? ⟨b0,0,none⟩=some (.func (.func 121) #[] #[]):=(h0.alloc _).cell 0;have c3:(w.alloc (.cells #[.int .i64 v.k,.int .i64 v.a,.int .i64 v.b,.string v.nm,.string v.mt,.slice v.A v.n v.c,.slice v.A2 v.n2 v.c2] 48)).cell? ⟨w.heap.size,2,none⟩=some (.int .i64 v.b):=(Blk.new w 48 _).cell 2;have hbel:Below w.heap.size w (w.alloc (.cells #[.int .i64 v.k,.int .i64 v.a,.int .i64 v.b,.string v.nm,.string v.mt,.slice v.A v.n v.c,.slice v.A2 v.n2 v.c2] 48)):=(DN _ _).alloc (DK _) _;have HG:=H_ (hg.below hbel);have HX:=H_ hx;have HB:=H_ hbel;clear h0 hg hx hbel;go_enter Tryz.func177,Tryz.ntmps177;go_upto_region 1 with(fail);generalize w.alloc (.cells #[.int .i64 v.k,.int .i64 v.a,.int .i64 v.b,.string v.nm,.string v.mt,.slice v.A v.n v.c,.slice v.A2 v.n2 v.c2] 48)=W at*
 go_wp2_with (first
  |(go_at_call 121;refine(iG _ _).mono ?_;rintro e w1 ⟨rfl,rfl⟩)
  |(go_at_call 32;refine(oH _ _ HX.out HG.out).mono ?_;rintro e w2 ⟨rfl,b2⟩;have HB2:=htr HB b2;clear b2))
 go_ret;exact⟨_,rfl,Strs.aJ (ss:=[du v.b]) (Blk.new _ 9 _) (by simp),HB2.out.alloc HB2.out.size _⟩
theorem xi(L:Nat)(cs:Array Value)(b0:Nat)(w:World)(h0:Blk w b0 196 #[fnv 123])(hL:Blk w L 48 cs)(hx:3<cs.size):
 Calls Tryz.prog 184 #[.pointer (some ⟨L,0,none⟩),.pointer (some ⟨b0,0,none⟩)] w λe w'=>e= .returned (.tuple #[])/\w.setCell ⟨L,3,none⟩ (.string ⟨#[]⟩)=w':=by
 have c0:w.cell? ⟨b0,0,none⟩=some (.func (.func 123) #[] #[]):=h0.cell 0;obtain⟨u,hu⟩:∃u,w.cell? ⟨L,3,none⟩=some u:=⟨cs[3],by rw[hL.cell,Eq hx]⟩;have f0:=hL.frozen 3;clear h0 hL hx;go_enter Tryz.func184,Tryz.ntmps184;go_wp2_with (go_at_call 123;refine(jS _ _).mono ?_;rintro e w1 ⟨rfl,rfl⟩);go_end0;exact⟨rfl,rfl⟩
theorem xr(v:Av)(b0:Nat)(w:World)(h0:Blk w b0 196 #[fnv 123]):
 Calls Tryz.prog 181 #[.agg v.cells,.pointer (some ⟨b0,0,none⟩)] w λe w'=>∃g,e= .returned (.slice (some ⟨g,0,none⟩) 1 1)/\Strs w' w'.heap.size (some ⟨g,0,none⟩) 1 [v.nm]/\Below w.heap.size w w':=by
 unfold Av.cells;have c0:(w.alloc (.cells #[.int .i64 v.k,.int .i64 v.a,.int .i64 v.b,.string v.nm,.string v.mt,.slice v.A v.n v.c,.slice v.A2 v.n2 v.c2] 48)).cell? ⟨b0,0,none⟩=some (.func (.func 123) #[] #[]):=(h0.alloc _).cell 0;have c3:(w.alloc (.cells #[.int .i64 v.k,.int .i64 v.a,.int .i64 v.b,.string v.nm,.string v.mt,.slice v.A v.n v.c,.slice v.A2 v.n2 v.c2] 48)).cell? ⟨w.heap.size,3,none⟩=some (.string v.nm):=(Blk.new w 48 _).cell 3;have hbel:Below w.heap.size w (w.alloc (.cells #[.int .i64 v.k,.int .i64 v.a,.int .i64 v.b,.string v.nm,.string v.mt,.slice v.A v.n v.c,.slice v.A2 v.n2 v.c2] 48)):=(DN _ _).alloc (DK _) _;have HB:=H_ hbel;clear h0 hbel;go_enter Tryz.func181,Tryz.ntmps181;go_upto_region 1 with(fail);generalize w.alloc (.cells #[.int .i64 v.k,.int .i64 v.a,.int .i64 v.b,.string v.nm,.string v.mt,.slice v.A v.n v.c,.slice v.A2 v.n2 v.c2] 48)=W at*
 go_wp2_with (go_at_call 123;refine(jS _ _).mono ?_;rintro e w1 ⟨rfl,rfl⟩);go_ret;exact⟨_,rfl,Strs.aJ (ss:=[v.nm]) (Blk.new _ 9 _) (by simp),HB.out.alloc HB.out.size _⟩
theorem xg(L:Nat)(cs:Array Value)(b0:Nat)(w:World)(h0:Blk w b0 196 #[fnv 124])(hL:Blk w L 48 cs)(hx:4<cs.size):
 Calls Tryz.prog 184 #[.pointer (some ⟨L,0,none⟩),.pointer (some ⟨b0,0,none⟩)] w λe w'=>e= .returned (.tuple #[])/\w.setCell ⟨L,4,none⟩ (.string ⟨#[]⟩)=w':=by
 have c0:w.cell? ⟨b0,0,none⟩=some (.func (.func 124) #[] #[]):=h0.cell 0;obtain⟨u,hu⟩:∃u,w.cell? ⟨L,4,none⟩=some u:=⟨cs[4],by rw[hL.cell,Eq hx]⟩;have f0:=hL.frozen 4;clear h0 hL hx;go_enter Tryz.func184,Tryz.ntmps184;go_wp2_with (go_at_call 124;refine(jR _ _).mono ?_;rintro e w1 ⟨rfl,rfl⟩);go_end0;exact⟨rfl,rfl⟩
theorem xp(v:Av)(b0:Nat)(w:World)(h0:Blk w b0 196 #[fnv 124]):
 Calls Tryz.prog 181 #[.agg v.cells,.pointer (some ⟨b0,0,none⟩)] w λe w'=>∃g,e= .returned (.slice (some ⟨g,0,none⟩) 1 1)/\Strs w' w'.heap.size (some ⟨g,0,none⟩) 1 [v.mt]/\Below w.heap.size w w':=by
 unfold Av.cells;have c0:(w.alloc (.cells #[.int .i64 v.k,.int .i64 v.a,.int .i64 v.b,.string v.nm,.string v.mt,.slice v.A v.n v.c,.slice v.A2 v.n2 v.c2] 48)).cell? ⟨b0,0,none⟩=some (.func (.func 124) #[] #[]):=(h0.alloc _).cell 0;have c3:(w.alloc (.cells #[.int .i64 v.k,.int .i64 v.a,.int .i64 v.b,.string v.nm,.string v.mt,.slice v.A v.n v.c,.slice v.A2 v.n2 v.c2] 48)).cell? ⟨w.heap.size,4,none⟩=some (.string v.mt):=(Blk.new w 48 _).cell 4;have hbel:Below w.heap.size w (w.alloc (.cells #[.int .i64 v.k,.int .i64 v.a,.int .i64 v.b,.string v.nm,.string v.mt,.slice v.A v.n v.c,.slice v.A2 v.n2 v.c2] 48)):=(DN _ _).alloc (DK _) _;have HB:=H_ hbel;clear h0 hbel;go_enter Tryz.func181,Tryz.ntmps181;go_upto_region 1 with(fail);generalize w.alloc (.cells #[.int .i64 v.k,.int .i64 v.a,.int .i64 v.b,.string v.nm,.string v.mt,.slice v.A v.n v.c,.slice v.A2 v.n2 v.c2] 48)=W at*
 go_wp2_with (go_at_call 124;refine(jR _ _).mono ?_;rintro e w1 ⟨rfl,rfl⟩);go_ret;exact⟨_,rfl,Strs.aJ (ss:=[v.mt]) (Blk.new _ 9 _) (by simp),HB.out.alloc HB.out.size _⟩
theorem uy{l:List UInt8}{v:Int}(h:Lib.parseIntB 64 l= .ok v):I64 v:=by
 unfold Lib.parseIntB at h;cases l with
 |nil=>cases h
 |cons c r=>
  dsimp only at h;split at h
  ·cases h
  ·cases h
  ·rename_i u hu;split at h
   ·cases h
   ·split at h
    ·cases h
    ·rename_i h1 h2;simp only[Lib.NumEnd.ok.injEq]at h;unfold I64;by_cases hn:c.toNat=45
     ·simp only[hn,not_true_eq_false,false_and,true_and,Nat.not_lt,FZ]at h1 h2 h;omega
     ·simp only[hn,not_false_eq_true,true_and,false_and,if_false,Nat.not_le]at h1 h2 h;omega
theorem fj(s:ByteArray)(w:World)(hg:Gl w)(hs:s.size<=1000000):
 Calls Tryz.prog 176 #[.string s] w λe w'=>e= .returned (.tuple #[.int .i64 (dj s),.bool (bY s)])/\Below w.heap.size w w':=wQ s w hg hs λv h=>uy h
theorem tb(L b0:Nat)(A:Option Addr)(c:Nat)(w:World):
 Calls Tryz.prog 175 #[.pointer (some ⟨L,0,none⟩),.slice A 0 c,.pointer (some ⟨b0,0,none⟩)] w λe w'=>e= .returned (.tuple #[.slice none 0 0,.bool false])/\w=w':=by
 go_enter Tryz.func175,Tryz.ntmps175;go_wp2;go_ret2;exact⟨rfl,rfl⟩
theorem td(L b0:Nat)(A:Option Addr)(c:Nat)(w:World):
 Calls Tryz.prog 180 #[.pointer (some ⟨L,0,none⟩),.slice A 0 c,.pointer (some ⟨b0,0,none⟩)] w λe w'=>e= .returned (.tuple #[.slice none 0 0,.bool false])/\w=w':=by
 go_enter Tryz.func180,Tryz.ntmps180;go_wp2;go_ret2;exact⟨rfl,rfl⟩
def kG(b off c:Nat):Option Addr:=if c=1 then some ⟨b,off,none⟩else some ⟨b,off+1,none⟩
theorem Strs.cut{b off n c:Nat}{s:ByteArray}{ss:List ByteArray}(h:Strs w B (some ⟨b,off,none⟩) (n+1) (s::ss))(hc:n+1<=c):Strs w B (kG b off c) n ss:=by
 unfold kG;by_cases h1:c=1
 ·rw[Ed h1];have hn:n=0:=by omega
  subst hn;have:=h.len;simp at this;subst this;exact⟨rfl,λh0=>absurd h0 (Fv 0)⟩
 ·rw[DS h1];exact Row.tail h
theorem wY(L:Nat)(cs:Array Value)(b0 b off n c B:Nat)(s:ByteArray)(ss:List ByteArray)(w:World)(hg:Gl w)(hs:s.size<=1000000)(h0:Blk w b0 194 #[fnv 120])(hL:Blk w L 48 cs)(hx:1<cs.size)(hw:Strs w B (some ⟨b,off,none⟩) (n+1) (s::ss))(hc:n+1<=c)(hn:n<=1000000):
 Calls Tryz.prog 175 #[.pointer (some ⟨L,0,none⟩),.slice (some ⟨b,off,none⟩) (n+1) c,.pointer (some ⟨b0,0,none⟩)] w λe w'=>
  e= .returned (.tuple #[.slice (kG b off c) n (c-1),.bool (bY s)])/\∃w1,Below w.heap.size w w1/\w1.setCell ⟨L,1,none⟩ (.int .i64 (dj s))=w':=by
 obtain⟨bb,oo,s',e1,hbb,hss,hcell⟩:=hw.at_ (k:=0) (by omega);simp only[Option.some.injEq,Addr.mk.injEq,Em]at e1;obtain⟨rfl,rfl⟩:=e1;simp only[ED,Option.some.injEq]at hss;subst hss;have hcell':w.cell? ⟨b,off,none⟩=some (.string s):=hcell;obtain⟨u,hu⟩:∃u,cs[1]?=some u:=⟨cs[1],Eq hx⟩;have HL:=H_ (And.intro hL hu);have H0:=H_ h0;have HG:=H_ hg;have hw1:((n+1:Nat):Int)=(n:Int)+1:=by omega
 clear hg h0 hL hx hw hcell hu;unfold kG;by_cases hc1:c=1
 ·have hn0:n=0:=by omega
  subst hn0 hc1;go_enter Tryz.func175,Tryz.ntmps175;go_wp2_with fail;refine(fj s _ HG.out hs).mono ?_;rintro e w1 ⟨rfl,b1⟩;have c0:w1.cell? ⟨b0,0,none⟩=some (.func (.func 120) #[] #[]):=(H0.out.below b1 H0.out.lt).cell 0;have hu1:=((HL.out.1.below b1 HL.out.1.lt).cell 1).trans HL.out.2;have f1:=(HL.out.1.below b1 HL.out.1.lt).frozen 1;have HB1:=H_ b1;clear b1 hcell';go_wp2_with (go_at_call 120;refine(iH _ _).mono ?_;rintro e w1 ⟨rfl,rfl⟩);go_ret2;exact⟨rfl,w1,HB1.out,rfl⟩
 ·have g0:(((n+1:Nat):Int)==0)=false:=by rw[DM];omega
  go_enter Tryz.func175,Tryz.ntmps175;go_wp2_with fail;refine(fj s _ HG.out hs).mono ?_;rintro e w1 ⟨rfl,b1⟩;have c0:w1.cell? ⟨b0,0,none⟩=some (.func (.func 120) #[] #[]):=(H0.out.below b1 H0.out.lt).cell 0;have hu1:=((HL.out.1.below b1 HL.out.1.lt).cell 1).trans HL.out.2;have f1:=(HL.out.1.below b1 HL.out.1.lt).frozen 1;have HB1:=H_ b1;clear b1 hcell';go_wp2_with (go_at_call 120;refine(iH _ _).mono ?_;rintro e w1 ⟨rfl,rfl⟩);go_ret2;exact⟨rfl,w1,HB1.out,rfl⟩
theorem wX(L:Nat)(cs:Array Value)(b0 b off n c B:Nat)(s:ByteArray)(ss:List ByteArray)(w:World)(hg:Gl w)(hs:s.size<=1000000)(h0:Blk w b0 194 #[fnv 121])(hL:Blk w L 48 cs)(hx:2<cs.size)(hw:Strs w B (some ⟨b,off,none⟩) (n+1) (s::ss))(hc:n+1<=c)(hn:n<=1000000):
 Calls Tryz.prog 175 #[.pointer (some ⟨L,0,none⟩),.slice (some ⟨b,off,none⟩) (n+1) c,.pointer (some ⟨b0,0,none⟩)] w λe w'=>
  e= .returned (.tuple #[.slice (kG b off c) n (c-1),.bool (bY s)])/\∃w1,Below w.heap.size w w1/\w1.setCell ⟨L,2,none⟩ (.int .i64 (dj s))=w':=by
 obtain⟨bb,oo,s',e1,hbb,hss,hcell⟩:=hw.at_ (k:=0) (by omega);simp only[Option.some.injEq,Addr.mk.injEq,Em]at e1;obtain⟨rfl,rfl⟩:=e1;simp only[ED,Option.some.injEq]at hss;subst hss;have hcell':w.cell? ⟨b,off,none⟩=some (.string s):=hcell;obtain⟨u,hu⟩:∃u,cs[2]?=some u:=⟨cs[2],Eq hx⟩;have HL:=H_ (And.intro hL hu);have H0:=H_ h0;have HG:=H_ hg;have hw1:((n+1:Nat):Int)=(n:Int)+1:=by omega
 clear hg h0 hL hx hw hcell hu;unfold kG;by_cases hc1:c=1
 ·have hn0:n=0:=by omega
  subst hn0 hc1;go_enter Tryz.func175,Tryz.ntmps175;go_wp2_with fail;refine(fj s _ HG.out hs).mono ?_;rintro e w1 ⟨rfl,b1⟩;have c0:w1.cell? ⟨b0,0,none⟩=some (.func (.func 121) #[] #[]):=(H0.out.below b1 H0.out.lt).cell 0;have hu1:=((HL.out.1.below b1 HL.out.1.lt).cell 2).trans HL.out.2;have f1:=(HL.out.1.below b1 HL.out.1.lt).frozen 2;have HB1:=H_ b1;clear b1 hcell';go_wp2_with (go_at_call 121;refine(iG _ _).mono ?_;rintro e w1 ⟨rfl,rfl⟩);go_ret2;exact⟨rfl,w1,HB1.out,rfl⟩
 ·have g0:(((n+1:Nat):Int)==0)=false:=by rw[DM];omega
  go_enter Tryz.func175,Tryz.ntmps175;go_wp2_with fail;refine(fj s _ HG.out hs).mono ?_;rintro e w1 ⟨rfl,b1⟩;have c0:w1.cell? ⟨b0,0,none⟩=some (.func (.func 121) #[] #[]):=(H0.out.below b1 H0.out.lt).cell 0;have hu1:=((HL.out.1.below b1 HL.out.1.lt).cell 2).trans HL.out.2;have f1:=(HL.out.1.below b1 HL.out.1.lt).frozen 2;have HB1:=H_ b1;clear b1 hcell';go_wp2_with (go_at_call 121;refine(iG _ _).mono ?_;rintro e w1 ⟨rfl,rfl⟩);go_ret2;exact⟨rfl,w1,HB1.out,rfl⟩
theorem xu(L:Nat)(cs:Array Value)(b0 b off n c B:Nat)(s:ByteArray)(ss:List ByteArray)(w:World)(h0:Blk w b0 196 #[fnv 123])(hL:Blk w L 48 cs)(hx:3<cs.size)(hw:Strs w B (some ⟨b,off,none⟩) (n+1) (s::ss))(hc:n+1<=c)(hn:n<=1000000):
 Calls Tryz.prog 180 #[.pointer (some ⟨L,0,none⟩),.slice (some ⟨b,off,none⟩) (n+1) c,.pointer (some ⟨b0,0,none⟩)] w λe w'=>
  e= .returned (.tuple #[.slice (kG b off c) n (c-1),.bool true])/\∃w1,Below w.heap.size w w1/\w1.setCell ⟨L,3,none⟩ (.string s)=w':=by
 obtain⟨bb,oo,s',e1,hbb,hss,hcell⟩:=hw.at_ (k:=0) (by omega);simp only[Option.some.injEq,Addr.mk.injEq,Em]at e1;obtain⟨rfl,rfl⟩:=e1;simp only[ED,Option.some.injEq]at hss;subst hss;have hcell':w.cell? ⟨b,off,none⟩=some (.string s):=hcell;obtain⟨u,hu⟩:∃u,cs[3]?=some u:=⟨cs[3],Eq hx⟩;have c0:w.cell? ⟨b0,0,none⟩=some (.func (.func 123) #[] #[]):=h0.cell 0;have hu1:=(hL.cell 3).trans hu;have f1:=hL.frozen 3;have hw1:((n+1:Nat):Int)=(n:Int)+1:=by omega
 have g0:(((n+1:Nat):Int)==0)=false:=by rw[DM];omega
 clear h0 hL hx hw hcell hu;unfold kG;by_cases hc1:c=1
 ·have hn0:n=0:=by omega
  subst hn0 hc1;go_enter Tryz.func180,Tryz.ntmps180;go_wp2_with fail;go_region_with ((go_at_call 123;refine(jS _ _).mono ?_;rintro e w1 ⟨rfl,rfl⟩))
  all_goals
   go_wp2_with fail;go_ret2;exact⟨rfl,w.drew,(DN _ _).drew,rfl⟩
 ·go_enter Tryz.func180,Tryz.ntmps180;go_wp2_with fail;go_region_with ((go_at_call 123;refine(jS _ _).mono ?_;rintro e w1 ⟨rfl,rfl⟩))
  all_goals
   go_wp2_with fail;go_ret2;exact⟨rfl,w.drew,(DN _ _).drew,rfl⟩
theorem xt(L:Nat)(cs:Array Value)(b0 b off n c B:Nat)(s:ByteArray)(ss:List ByteArray)(w:World)(h0:Blk w b0 196 #[fnv 124])(hL:Blk w L 48 cs)(hx:4<cs.size)(hw:Strs w B (some ⟨b,off,none⟩) (n+1) (s::ss))(hc:n+1<=c)(hn:n<=1000000):
 Calls Tryz.prog 180 #[.pointer (some ⟨L,0,none⟩),.slice (some ⟨b,off,none⟩) (n+1) c,.pointer (some ⟨b0,0,none⟩)] w λe w'=>
  e= .returned (.tuple #[.slice (kG b off c) n (c-1),.bool true])/\∃w1,Below w.heap.size w w1/\w1.setCell ⟨L,4,none⟩ (.string s)=w':=by
 obtain⟨bb,oo,s',e1,hbb,hss,hcell⟩:=hw.at_ (k:=0) (by omega);simp only[Option.some.injEq,Addr.mk.injEq,Em]at e1;obtain⟨rfl,rfl⟩:=e1;simp only[ED,Option.some.injEq]at hss;subst hss;have hcell':w.cell? ⟨b,off,none⟩=some (.string s):=hcell;obtain⟨u,hu⟩:∃u,cs[4]?=some u:=⟨cs[4],Eq hx⟩;have c0:w.cell? ⟨b0,0,none⟩=some (.func (.func 124) #[] #[]):=h0.cell 0;have hu1:=(hL.cell 4).trans hu;have f1:=hL.frozen 4;have hw1:((n+1:Nat):Int)=(n:Int)+1:=by omega
 have g0:(((n+1:Nat):Int)==0)=false:=by rw[DM];omega
 clear h0 hL hx hw hcell hu;unfold kG;by_cases hc1:c=1
 ·have hn0:n=0:=by omega
  subst hn0 hc1;go_enter Tryz.func180,Tryz.ntmps180;go_wp2_with fail;go_region_with ((go_at_call 124;refine(jR _ _).mono ?_;rintro e w1 ⟨rfl,rfl⟩))
  all_goals
   go_wp2_with fail;go_ret2;exact⟨rfl,w.drew,(DN _ _).drew,rfl⟩
 ·go_enter Tryz.func180,Tryz.ntmps180;go_wp2_with fail;go_region_with ((go_at_call 124;refine(jR _ _).mono ?_;rintro e w1 ⟨rfl,rfl⟩))
  all_goals
   go_wp2_with fail;go_ret2;exact⟨rfl,w.drew,(DN _ _).drew,rfl⟩
def i1(s set:ByteArray):ByteArray:=⟨(Lib.trimLeftS s.data.toList set.data.toList).toArray⟩
theorem oh(l cs:List UInt8):(Lib.trimLeftS l cs).length<=l.length:=by
 unfold Lib.trimLeftS;exact List.Sublist.length_le (List.dropWhile_sublist _)
theorem vB(s set:ByteArray):(i1 s set).size<=s.size:=by
 have:=oh s.data.toList set.data.toList;change(Lib.trimLeftS s.data.toList set.data.toList).length<=s.data.toList.length;exact this
def yw(set:ByteArray):Bool:=set.data.toList.all λb=>decide (b.toNat<128)
theorem sM(s set:ByteArray)(h:yw set=true)(hz:set.size<1000)(w:World):Calls Tryz.prog 252 #[.string s,.string set] w λe w'=>e= .returned (.string (i1 s set))/\Below w.heap.size w w':=
 Any.strings_TrimLeft_laid Tryz.lays161 (by kernel_rfl) s set w (by omega) (ascii_of_all h)
def bM(s set:ByteArray):ByteArray:=s.extract 0 (s.size-(i1 s set).size)
theorem rl(s set:ByteArray)(h:yw set=true)(hz:set.size<1000)(hs:s.size<=1000000)(w:World):Calls Tryz.prog 268 #[.string s,.string set] w λe w'=>e= .returned (.string (bM s set))/\Below w.heap.size w w':=by
 have hT:=H_ (sM s set h hz);have hl:=vB s set;unfold bM;generalize i1 s set=r at hT hl⊢;obtain⟨k,hk⟩:=nm_ (s.size-r.size);have hk':((s.size:Int)-(r.size:Int))=(k:Int):=by omega
 have hk2:k<=s.size:=by omega
 clear h;go_enter Tryz.func268,Tryz.ntmps268;go_wp2_with (go_at_call 252;refine(hT.out _).mono ?_;rintro e w' ⟨rfl,hB⟩);go_ret;exact⟨by rw[hk];rfl,hB⟩
theorem Db(s:ByteArray):decide (Lib.bsGo (λt=>Op.bytesLess (kwL.getD t ByteArray.empty).toList s.toList) 24 0 24<24/\kwL.getD (Lib.bsGo (λt=>Op.bytesLess (kwL.getD t ByteArray.empty).toList s.toList) 24 0 24) ByteArray.empty=s)=inB kwL s:=by
 by_cases hm:s∈kwL
 ·have h2:inB kwL s=true:=by
   unfold inB;exact Fs.2 ⟨s,hm,by simp⟩
  rw[h2];unfold kwL at hm;simp only[DY,DX,Ew]at hm;rcases hm with rfl|rfl|rfl|rfl|rfl|rfl|rfl|rfl|rfl|rfl|rfl|rfl|rfl|rfl|rfl|rfl|rfl|rfl|rfl|rfl|rfl|rfl|rfl|rfl<;>decide+kernel
 ·have h2:inB kwL s=false:=by
   cases hb:inB kwL s with
   |false=>rfl
   |true=>
    unfold inB at hb;obtain⟨x,hx,he⟩:=Fs.1 hb;rw[Ey,Ey,FG]at he;exact absurd (Eh he▸hx) hm
  rw[h2,decide_eq_false_iff_not];rintro⟨h1,h3⟩;apply hm;rw[<-h3,Es];have hl:kwL.length=24:=rfl;generalize Lib.bsGo (λt=>Op.bytesLess (kwL.getD t ByteArray.empty).toList s.toList) 24 0 24=I at h1;rw[DT (by omega)];exact List.getElem_mem _
theorem CM(s:ByteArray)(w:World)(hg:Gl w):Calls Tryz.prog 269 #[.string s] w λe w'=>e= .returned (.bool (inB kwL s))/\Below w.heap.size w w':=by
 obtain⟨A,c,hc,hk⟩:=GlB.kw hg;obtain⟨b,off,rfl,hb,hcell⟩:=hk.2 (by omega)
 have hS:=Any2.slices_BinarySearch_string Tryz.laysBS b off 24 c (λt=>kwL.getD t ByteArray.empty) s w (by omega) (λj hj=>by
  refine hcell j _ ?_;rw[Eu,Es];have hl:kwL.length=24:=rfl;rw[DT (by omega)];rfl)
 rw[Db]at hS;change Calls Tryz.prog 289 _ _ _ at hS;generalize Lib.bsGo (λt=>Op.bytesLess (kwL.getD t ByteArray.empty).toList s.toList) 24 0 24=I at hS;generalize inB kwL s=r at hS⊢;have HS:=H_ hS;clear hS hk hcell hg;go_enter Tryz.func269,Tryz.ntmps269;go_wp2_with (go_at_call 289;refine HS.out.mono ?_;rintro e w' ⟨rfl,q,rfl⟩);go_ret;exact⟨rfl,aT (DN _ _) q⟩
end
end Go.Proofs.YtjpbckbpeblibaaGreatDoor
