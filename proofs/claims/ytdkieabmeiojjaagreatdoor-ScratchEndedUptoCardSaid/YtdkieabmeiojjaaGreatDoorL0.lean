/- Go's library: a byte's place in a text; what text begins with. No condition. -/
import Derived.Test.YtdkieabmeiojjaaGreatDoorB0
import Derived.Lib.Slices
import Derived.Lib.Walk
import Derived.Lib.Bytealg
set_option linter.unusedSimpArgs false
set_option linter.unusedVariables false
set_option linter.unusedSectionVars false
set_option maxHeartbeats 64000000
set_option maxRecDepth 100000
namespace Go.Proofs.YtdkieabmeiojjaaGreatDoor
open Go Go.Ab
open Classical
variable [Sel]
theorem tnS {a b:Int} (ha:0<=a) (hb:0<=b):(a-b).toNat=a.toNat-b.toNat:=by omega
theorem zz:(∀ {n:Int},-9223372036854775808<=n->n<=9223372036854775807->IntKind.i64.wrap n=n)/\(∀ {a b:Int},0<=a->0<=b->(a-b).toNat=a.toNat-b.toNat)/\(∀ {a b:Int},0<=a->0<=b->(a+b).toNat=a.toNat+b.toNat)/\(∀ {a b:Int},0<=a->0<=b->(a*b).toNat=a.toNat*b.toNat)/\(∀ {α:Type} {a:α} {l:List α},(a::l)[0]?=some a)/\(∀ {α:Type} (a:α) (l:List α) (h:0<(a::l).length),(a::l)[0]=a) :=
 ⟨i64_in,tnS,Int.toNat_add,Int.toNat_mul,List.getElem?_cons_zero,List.getElem_cons_zero⟩
@[simp] theorem fkA:qM Tryz.prog 4=true/\qM Tryz.prog 5=true/\qM Tryz.prog 6=true/\qM Tryz.prog 7=true/\qM Tryz.prog 8=true/\qM Tryz.prog 9=true/\qM Tryz.prog 10=true/\qM Tryz.prog 11=true/\qM Tryz.prog 12=true/\qM Tryz.prog 13=true/\qM Tryz.prog 14=true/\qM Tryz.prog 15=true/\qM Tryz.prog 16=true/\qM Tryz.prog 17=true/\qM Tryz.prog 18=true/\qM Tryz.prog 19=true/\qM Tryz.prog 20=true/\qM Tryz.prog 21=true/\qM Tryz.prog 22=true/\qM Tryz.prog 23=true/\qM Tryz.prog 24=true/\qM Tryz.prog 25=true/\qM Tryz.prog 26=true/\qM Tryz.prog 27=true/\qM Tryz.prog 28=true/\qM Tryz.prog 29=true/\qM Tryz.prog 30=true/\qM Tryz.prog 31=true/\qM Tryz.prog 32=true/\qM Tryz.prog 33=true/\qM Tryz.prog 34=true/\qM Tryz.prog 35=true/\qM Tryz.prog 36=true/\qM Tryz.prog 37=true/\qM Tryz.prog 38=true/\qM Tryz.prog 39=true/\qM Tryz.prog 40=true/\qM Tryz.prog 41=true/\qM Tryz.prog 42=true/\qM Tryz.prog 43=true/\qM Tryz.prog 44=true/\qM Tryz.prog 45=true/\qM Tryz.prog 46=true/\qM Tryz.prog 47=true/\qM Tryz.prog 48=true/\qM Tryz.prog 49=true/\qM Tryz.prog 50=true/\qM Tryz.prog 51=true/\qM Tryz.prog 52=true/\qM Tryz.prog 53=true/\qM Tryz.prog 56=true/\qM Tryz.prog 57=true/\qM Tryz.prog 58=true/\qM Tryz.prog 59=true/\qM Tryz.prog 60=true/\qM Tryz.prog 61=true/\qM Tryz.prog 62=true/\qM Tryz.prog 63=true/\qM Tryz.prog 64=true/\qM Tryz.prog 65=true/\qM Tryz.prog 66=true/\qM Tryz.prog 67=true/\qM Tryz.prog 68=true/\qM Tryz.prog 69=true/\qM Tryz.prog 70=true/\qM Tryz.prog 71=true/\qM Tryz.prog 72=true/\qM Tryz.prog 74=true/\qM Tryz.prog 75=true/\qM Tryz.prog 76=true/\qM Tryz.prog 77=true/\qM Tryz.prog 78=true/\qM Tryz.prog 90=true/\qM Tryz.prog 91=true/\qM Tryz.prog 92=true/\qM Tryz.prog 93=true/\qM Tryz.prog 94=true/\qM Tryz.prog 95=true/\qM Tryz.prog 96=true/\qM Tryz.prog 97=true/\qM Tryz.prog 98=true/\qM Tryz.prog 99=true/\qM Tryz.prog 100=true/\qM Tryz.prog 101=true/\qM Tryz.prog 102=true/\qM Tryz.prog 103=true/\qM Tryz.prog 104=true/\qM Tryz.prog 105=true/\qM Tryz.prog 106=true/\qM Tryz.prog 107=true/\qM Tryz.prog 108=true/\qM Tryz.prog 109=true/\qM Tryz.prog 110=true/\qM Tryz.prog 111=true/\qM Tryz.prog 112=true/\qM Tryz.prog 113=true/\qM Tryz.prog 114=true/\qM Tryz.prog 115=true/\qM Tryz.prog 116=true/\qM Tryz.prog 117=true/\qM Tryz.prog 118=true/\qM Tryz.prog 119=true/\qM Tryz.prog 120=true/\qM Tryz.prog 121=true/\qM Tryz.prog 122=true/\qM Tryz.prog 123=true/\qM Tryz.prog 131=true/\qM Tryz.prog 132=true/\qM Tryz.prog 133=true/\qM Tryz.prog 134=true/\qM Tryz.prog 135=true/\qM Tryz.prog 137=true/\qM Tryz.prog 138=true/\qM Tryz.prog 140=true/\qM Tryz.prog 141=true/\qM Tryz.prog 142=true/\qM Tryz.prog 143=true/\qM Tryz.prog 144=true/\qM Tryz.prog 145=true/\qM Tryz.prog 146=true/\qM Tryz.prog 147=true/\qM Tryz.prog 148=true/\qM Tryz.prog 149=true/\qM Tryz.prog 150=true/\qM Tryz.prog 151=true/\qM Tryz.prog 152=true/\qM Tryz.prog 153=true/\qM Tryz.prog 154=true/\qM Tryz.prog 155=true/\qM Tryz.prog 156=true/\qM Tryz.prog 157=true/\qM Tryz.prog 158=true/\qM Tryz.prog 161=true/\qM Tryz.prog 162=true/\qM Tryz.prog 164=true/\qM Tryz.prog 165=true/\qM Tryz.prog 167=true/\qM Tryz.prog 168=true/\qM Tryz.prog 169=true/\qM Tryz.prog 170=true/\qM Tryz.prog 171=true/\qM Tryz.prog 172=true/\qM Tryz.prog 173=true/\qM Tryz.prog 174=true/\qM Tryz.prog 175=true/\qM Tryz.prog 176=true/\qM Tryz.prog 177=true/\qM Tryz.prog 178=true/\qM Tryz.prog 179=true/\qM Tryz.prog 180=true/\qM Tryz.prog 181=true/\qM Tryz.prog 182=true/\qM Tryz.prog 183=true/\qM Tryz.prog 185=true/\qM Tryz.prog 190=true/\qM Tryz.prog 191=true/\qM Tryz.prog 192=true/\qM Tryz.prog 193=true/\qM Tryz.prog 194=true/\qM Tryz.prog 195=true/\qM Tryz.prog 196=true/\qM Tryz.prog 198=true/\qM Tryz.prog 199=true/\qM Tryz.prog 205=true/\qM Tryz.prog 209=true/\qM Tryz.prog 210=true:=by and_intros<;>kernel_rfl
@[simp] theorem fkB:qP Tryz.prog (.func 4)=false/\qP Tryz.prog (.func 5)=false/\qP Tryz.prog (.func 6)=false/\qP Tryz.prog (.func 7)=false/\qP Tryz.prog (.func 8)=false/\qP Tryz.prog (.func 9)=false/\qP Tryz.prog (.func 10)=false/\qP Tryz.prog (.func 11)=false/\qP Tryz.prog (.func 12)=false/\qP Tryz.prog (.func 13)=false/\qP Tryz.prog (.func 14)=false/\qP Tryz.prog (.func 15)=false/\qP Tryz.prog (.func 16)=false/\qP Tryz.prog (.func 17)=false/\qP Tryz.prog (.func 18)=false/\qP Tryz.prog (.func 19)=false/\qP Tryz.prog (.func 20)=false/\qP Tryz.prog (.func 21)=false/\qP Tryz.prog (.func 22)=false/\qP Tryz.prog (.func 23)=false/\qP Tryz.prog (.func 24)=false/\qP Tryz.prog (.func 25)=false/\qP Tryz.prog (.func 26)=false/\qP Tryz.prog (.func 27)=false/\qP Tryz.prog (.func 28)=false/\qP Tryz.prog (.func 29)=false/\qP Tryz.prog (.func 30)=false/\qP Tryz.prog (.func 31)=false/\qP Tryz.prog (.func 32)=false/\qP Tryz.prog (.func 33)=false/\qP Tryz.prog (.func 34)=false/\qP Tryz.prog (.func 35)=false/\qP Tryz.prog (.func 36)=false/\qP Tryz.prog (.func 37)=false/\qP Tryz.prog (.func 38)=false/\qP Tryz.prog (.func 39)=false/\qP Tryz.prog (.func 40)=false/\qP Tryz.prog (.func 41)=false/\qP Tryz.prog (.func 42)=false/\qP Tryz.prog (.func 43)=false/\qP Tryz.prog (.func 44)=false/\qP Tryz.prog (.func 45)=false/\qP Tryz.prog (.func 46)=false/\qP Tryz.prog (.func 47)=false/\qP Tryz.prog (.func 48)=false/\qP Tryz.prog (.func 49)=false/\qP Tryz.prog (.func 50)=false/\qP Tryz.prog (.func 51)=false/\qP Tryz.prog (.func 52)=false/\qP Tryz.prog (.func 53)=false/\qP Tryz.prog (.func 56)=false/\qP Tryz.prog (.func 57)=false/\qP Tryz.prog (.func 58)=false/\qP Tryz.prog (.func 59)=false/\qP Tryz.prog (.func 60)=false/\qP Tryz.prog (.func 61)=false/\qP Tryz.prog (.func 62)=false/\qP Tryz.prog (.func 63)=false/\qP Tryz.prog (.func 64)=false/\qP Tryz.prog (.func 65)=false/\qP Tryz.prog (.func 66)=false/\qP Tryz.prog (.func 67)=false/\qP Tryz.prog (.func 68)=false/\qP Tryz.prog (.func 69)=false/\qP Tryz.prog (.func 70)=false/\qP Tryz.prog (.func 71)=false/\qP Tryz.prog (.func 72)=false/\qP Tryz.prog (.func 74)=false/\qP Tryz.prog (.func 75)=false/\qP Tryz.prog (.func 76)=false/\qP Tryz.prog (.func 77)=false/\qP Tryz.prog (.func 78)=false/\qP Tryz.prog (.func 90)=false/\qP Tryz.prog (.func 91)=false/\qP Tryz.prog (.func 92)=false/\qP Tryz.prog (.func 93)=false/\qP Tryz.prog (.func 94)=false/\qP Tryz.prog (.func 95)=false/\qP Tryz.prog (.func 96)=false/\qP Tryz.prog (.func 97)=false/\qP Tryz.prog (.func 98)=false/\qP Tryz.prog (.func 99)=false/\qP Tryz.prog (.func 100)=false/\qP Tryz.prog (.func 101)=false/\qP Tryz.prog (.func 102)=false/\qP Tryz.prog (.func 103)=false/\qP Tryz.prog (.func 104)=false/\qP Tryz.prog (.func 105)=false/\qP Tryz.prog (.func 106)=false/\qP Tryz.prog (.func 107)=false/\qP Tryz.prog (.func 108)=false/\qP Tryz.prog (.func 109)=false/\qP Tryz.prog (.func 110)=false/\qP Tryz.prog (.func 111)=false/\qP Tryz.prog (.func 112)=false/\qP Tryz.prog (.func 113)=false/\qP Tryz.prog (.func 114)=false/\qP Tryz.prog (.func 115)=false/\qP Tryz.prog (.func 116)=false/\qP Tryz.prog (.func 117)=false/\qP Tryz.prog (.func 118)=false/\qP Tryz.prog (.func 119)=false/\qP Tryz.prog (.func 120)=false/\qP Tryz.prog (.func 121)=false/\qP Tryz.prog (.func 122)=false/\qP Tryz.prog (.func 123)=false/\qP Tryz.prog (.func 131)=false/\qP Tryz.prog (.func 132)=false/\qP Tryz.prog (.func 133)=false/\qP Tryz.prog (.func 134)=false/\qP Tryz.prog (.func 135)=false/\qP Tryz.prog (.func 137)=false/\qP Tryz.prog (.func 138)=false/\qP Tryz.prog (.func 140)=false/\qP Tryz.prog (.func 141)=false/\qP Tryz.prog (.func 142)=false/\qP Tryz.prog (.func 143)=false/\qP Tryz.prog (.func 144)=false/\qP Tryz.prog (.func 145)=false/\qP Tryz.prog (.func 146)=false/\qP Tryz.prog (.func 147)=false/\qP Tryz.prog (.func 148)=false/\qP Tryz.prog (.func 149)=false/\qP Tryz.prog (.func 150)=false/\qP Tryz.prog (.func 151)=false/\qP Tryz.prog (.func 152)=false/\qP Tryz.prog (.func 153)=false/\qP Tryz.prog (.func 154)=false/\qP Tryz.prog (.func 155)=false/\qP Tryz.prog (.func 156)=false/\qP Tryz.prog (.func 157)=false/\qP Tryz.prog (.func 158)=false/\qP Tryz.prog (.func 161)=false/\qP Tryz.prog (.func 162)=false/\qP Tryz.prog (.func 164)=false/\qP Tryz.prog (.func 165)=false/\qP Tryz.prog (.func 167)=false/\qP Tryz.prog (.func 168)=false/\qP Tryz.prog (.func 169)=false/\qP Tryz.prog (.func 170)=false/\qP Tryz.prog (.func 171)=false/\qP Tryz.prog (.func 172)=false/\qP Tryz.prog (.func 173)=false/\qP Tryz.prog (.func 174)=false/\qP Tryz.prog (.func 175)=false/\qP Tryz.prog (.func 176)=false/\qP Tryz.prog (.func 177)=false/\qP Tryz.prog (.func 178)=false/\qP Tryz.prog (.func 179)=false/\qP Tryz.prog (.func 180)=false/\qP Tryz.prog (.func 181)=false/\qP Tryz.prog (.func 182)=false/\qP Tryz.prog (.func 183)=false/\qP Tryz.prog (.func 185)=false/\qP Tryz.prog (.func 190)=false/\qP Tryz.prog (.func 191)=false/\qP Tryz.prog (.func 192)=false/\qP Tryz.prog (.func 193)=false/\qP Tryz.prog (.func 194)=false/\qP Tryz.prog (.func 195)=false/\qP Tryz.prog (.func 196)=false/\qP Tryz.prog (.func 198)=false/\qP Tryz.prog (.func 199)=false/\qP Tryz.prog (.func 205)=false/\qP Tryz.prog (.func 209)=false/\qP Tryz.prog (.func 210)=false:=by and_intros<;>exact JL (by kernel_rfl)
theorem om {a b:Prop} (h:b) (ha:a:=by first|omega|(show vH _ _=true;kernel_rfl)|(show rdJ _ _ _ _ _=true;kernel_rfl)|(show VS _ _ _=true;kernel_rfl)|(show zkm _ _ _=true;kernel_rfl)):a/\b:=⟨ha,h⟩
theorem zov {f:FuncId} {fn:Func} {code:Code} (hf:Tryz.prog.funcs[f]?=some fn) (cf:Cfg) {args:List TV} {H:q8} {R:TV->q8->Prop} (h:∀imm0 w0,vc ⟨Tryz.prog,fn.ntmps,imm0,H,w0,none,[]⟩ cf code (zct Tryz.prog fn R) (entry args H)) (hb:fn.body=some code:=by rfl) (hd:J3 cf fn.ntmps code=true:=by kernel_rfl) (hn:args.length.ble fn.ntmps=true:=by rfl):q7 Tryz.prog f args H R :=
 q7.of_vc laid mixed hf hb cf hd (Nat.le_of_ble_eq_true hn) h
theorem zow {f:FuncId} {fn:Func} {code:Code} (hf:Tryz.prog.funcs[f]?=some fn) (cf:Cfg) {args:List TV} {r:TV} (h:∀imm0 w0,vc ⟨Tryz.prog,fn.ntmps,imm0,[],w0,none,[]⟩ cf code (zct Tryz.prog fn fun r' _=>r'=r) (entry args [])) (hb:fn.body=some code:=by rfl) (hd:J3 cf fn.ntmps code=true:=by kernel_rfl) (hn:args.length.ble fn.ntmps=true:=by rfl):PC Tryz.prog f args r :=
 PC.of (zov hf cf h hb hd hn)
theorem zcv {P:Program} {s:St} {g:FuncId} {caps:List AV} {cs:List TV} {args bs:List TV} {dst:Option Nat} {K:St->Prop} {r:TV} (h:PC P g bs r) (hk:K (s.put dst r)) (hc:caps.mapM QR=some cs:=by rfl) (ha:args.all qE=true:=by first|rfl|simp[qE]) (hf:qM P g=true:=by simp) (hle:qR ((args++cs).map TV.er) bs:=by simp[qR,TV.er,AV.er]):Z9 P s (.av .func (.fn g caps)) args dst K:=qO h hc ha hf hle hk
theorem zcd {P:Program} {s:St} {g:FuncId} {caps:List AV} {cs:List TV} {args bs:List TV} {dst:Option Nat} {K:St->Prop} {r:TV} (h:PC P g bs r) (hk:K (s.put dst r)) (hc:caps.mapM QR=some cs:=by rfl) (ha:args.all qE=true:=by first|rfl|simp[qE]) (hf:qM P g=true:=by simp) (hle:qR ((args++cs).map TV.er) bs:=by simp[qR,coC,TV.er,AV.er]):pT P s (.av .func (.fn g caps)) args dst K:=kP h hc ha hf hle hk
theorem zrd (cf:Cfg) {c:Ctx} {code:Code} {K:Exit->St->Prop} {s:St} (h:vc c cf code K s) (hd:J3 cf c.n code=true:=by kernel_rfl) (hl:laidOutB c.P=true:=by exact laid) (hm:c.P.follows .mixedOrders=true:=by exact mixed):AT c code K s:=ZI hl hm code K s hd h
attribute [simp] zR qI
theorem le9:(∀l:List Dig,KW l=.sl .no (l.map JG))/\(∀l:List PK,QZ l=.sl .no (l.map QU))/\(∀w:zmD,KZ w=.agg [.i .i64 w.kind,.s w.path,.i .i64 w.i])/\(∀t:PK,QU t=.agg [JG t.key,zC t.reads,QM t.outs])/\(∀l:List KH,zC l=.sl .no (l.map qX))/\(∀r:KH,qX r=.agg [.s r.path,.b r.is,JG r.sum])/\(∀l:List Made,QM l=.sl .no (l.map J0))/\∀r:Made,J0 r=.agg [.s r.path,JG r.sum] :=
 ⟨fun _=>rfl,fun _=>rfl,fun _=>rfl,fun _=>rfl,fun _=>rfl,fun _=>rfl,fun _=>rfl,fun _=>rfl⟩
theorem PC.of_calls {P:Program} {f:FuncId} {args:List TV} {vs0:List Value} {r:TV} {v:Value} (hdet:∀imm w vs,ARs P (g0 imm) w args vs->vs=vs0) (hr:∀imm w,AR P (g0 imm) w r v)
  (h:∀w,Calls P f vs0.toArray w fun e w'=>e=.returned v/\w'=w):PC P f args r:=by
 intro imm w vs hrep hargs
 have:=hdet imm w vs.toList hargs
 have hv:vs=vs0.toArray:=by rw[<-this]
 subst hv
 refine(h w).mono ?_
 rintro e w' ⟨rfl,rfl⟩
 exact⟨v,r,imm,[],rfl,⟨rfl,rfl⟩,hr _ _,hrep,ZB.refl⟩
@[simp] theorem zm3:qM Tryz.prog 166=true:=by kernel_rfl
@[simp] theorem zq2:qP Tryz.prog (.func 166)=false:=JL zm3
@[simp] theorem zn2:qM Tryz.prog 139=true:=by kernel_rfl
@[simp] theorem zpX:qP Tryz.prog (.func 139)=false:=JL zn2
@[simp] theorem zme:qM Tryz.prog 160=true:=by kernel_rfl
@[simp] theorem zpY:qP Tryz.prog (.func 160)=false:=JL zme
@[simp] theorem zmk:qM Tryz.prog 130=true:=by kernel_rfl
@[simp] theorem zq1:qP Tryz.prog (.func 130)=false:=JL zmk
theorem zau (s:ByteArray) (c:Int) (w:World) :
  Calls Tryz.prog 166 #[.string s,.int .u8 c] w fun e w'=>e=.returned (.int .i64 (Lib.indexByte s.data.toList c.toNat.toUInt8))/\w'=w:=by
 go_enter Tryz.func166,Tryz.ntmps166
 go_wp2
 rw[run_callFunc_extern Tryz.func189 (by kernel_rfl) (by kernel_rfl) (by kernel_rfl) (e:=Extern.BytealgIndexByte.indexByte) (by kernel_rfl),Lib.run_indexByteString]
 simp only[Result.andThen]
 rw[Oper.upon_value]
 go_wp2
 go_ret
 exact⟨rfl,rfl⟩
theorem za6 (l:List UInt8) (c:UInt8):PC Tryz.prog 166 [.av .str (.s l),.av (.int .u8) (.i .u8 c.toNat)] (.av (.int .i64) (.i .i64 (Lib.indexByte l c))):=by
 refine PC.of_calls (vs0:=[.string ⟨l.toArray⟩,.int .u8 c.toNat]) (v:=.int .i64 (Lib.indexByte l c)) ?_ (fun _ _=>⟨rfl,rfl,rfl⟩) ?_
 ·intro imm w vs h
  match vs,h with
  | [a,b],⟨⟨f1,_,h1⟩,⟨f2,_,h2⟩,_⟩ =>
   rw[qF rfl f1]at h1
   rw[qF rfl f2]at h2
   simp at h1 h2
   rw[h1,h2]
 ·intro w
  have:=zau ⟨l.toArray⟩ c.toNat w
  simpa using this
theorem KY (l:List UInt8) (c:UInt8):PC Tryz.prog 139 [.av .str (.s l),.av (.int .u8) (.i .u8 c.toNat)] (.av (.int .i64) (.i .i64 (Lib.indexByte l c))):=by
 refine PC.of <| q7.of_vc laid mixed Tryz.func139 rfl cf0 (by kernel_rfl) (by simp[Tryz.ntmps139]) fun imm0 w0=>?_
 simp (disch:=omega) [zz]
 refine qO (za6 l c) rfl rfl (by simp) (by simp[qR,TV.er,AV.er]) ?_
 simp (disch:=omega) [zz,Tryz.f139]
def KG (l p:List UInt8):Bool:=decide (l.take p.length=p)
theorem zaf (l p:List UInt8) (hl:l.length<=9223372036854775807) (hp:p.length<=9223372036854775807):PC Tryz.prog 160 [.av .str (.s l),.av .str (.s p)] (.av .bool (.b (KG l p))):=by
 refine PC.of <| q7.of_vc laid mixed Tryz.func160 rfl cf0 (by kernel_rfl) (by simp[Tryz.ntmps160]) fun imm0 w0=>?_
 by_cases h:p.length<=l.length
 ·have h':(p.length:Int)<=l.length:=by omega
  simp (disch:=omega) [zz,h',Tryz.f160,KG]
 ·have h':¬(p.length:Int)<=l.length:=by omega
  have h2:¬l.take p.length=p:=fun e=>by have:=congrArg List.length e;simp at this;omega
  simp (disch:=omega) [zz,h',Tryz.f160,KG,h2]
theorem KV (l p:List UInt8) (hl:l.length<=9223372036854775807) (hp:p.length<=9223372036854775807):PC Tryz.prog 130 [.av .str (.s l),.av .str (.s p)] (.av .bool (.b (KG l p))):=by
 refine PC.of <| q7.of_vc laid mixed Tryz.func130 rfl cf0 (by kernel_rfl) (by simp[Tryz.ntmps130]) fun imm0 w0=>?_
 simp (disch:=omega) [zz]
 refine qO (zaf l p hl hp) rfl rfl (by simp) (by simp[qR,TV.er,AV.er]) ?_
 simp (disch:=omega) [zz,Tryz.f130]
end Go.Proofs.YtdkieabmeiojjaaGreatDoor
