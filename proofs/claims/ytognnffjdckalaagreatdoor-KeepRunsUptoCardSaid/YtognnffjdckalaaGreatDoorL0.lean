/- Go's library: a byte's place in a text; what text begins with. No condition. -/
import Derived.Test.YtognnffjdckalaaGreatDoorB0
import Derived.Lib.Slices
import Derived.Lib.Walk
import Derived.Lib.Bytealg
set_option linter.unusedSimpArgs false
set_option linter.unusedVariables false
set_option linter.unusedSectionVars false
set_option maxHeartbeats 64000000
set_option maxRecDepth 100000
namespace Go.Proofs.YtognnffjdckalaaGreatDoor
open Go Go.Ab
open Classical
variable [Sel]
theorem tnS {a b:Int} (ha:0<=a) (hb:0<=b):(a-b).toNat=a.toNat-b.toNat:=by omega
theorem zz:(∀ {n:Int},-9223372036854775808<=n->n<=9223372036854775807->IntKind.i64.wrap n=n)/\(∀ {a b:Int},0<=a->0<=b->(a-b).toNat=a.toNat-b.toNat)/\(∀ {a b:Int},0<=a->0<=b->(a+b).toNat=a.toNat+b.toNat)/\(∀ {a b:Int},0<=a->0<=b->(a*b).toNat=a.toNat*b.toNat)/\(∀ {α:Type} {a:α} {l:List α},(a::l)[0]?=some a)/\(∀ {α:Type} (a:α) (l:List α) (h:0<(a::l).length),(a::l)[0]=a) :=
 ⟨i64_in,tnS,Int.toNat_add,Int.toNat_mul,List.getElem?_cons_zero,List.getElem_cons_zero⟩
@[simp] theorem fkA:qL Tryz.prog 3=true/\qL Tryz.prog 4=true/\qL Tryz.prog 5=true/\qL Tryz.prog 6=true/\qL Tryz.prog 7=true/\qL Tryz.prog 8=true/\qL Tryz.prog 9=true/\qL Tryz.prog 10=true/\qL Tryz.prog 11=true/\qL Tryz.prog 12=true/\qL Tryz.prog 13=true/\qL Tryz.prog 14=true/\qL Tryz.prog 15=true/\qL Tryz.prog 16=true/\qL Tryz.prog 17=true/\qL Tryz.prog 18=true/\qL Tryz.prog 19=true/\qL Tryz.prog 20=true/\qL Tryz.prog 21=true/\qL Tryz.prog 22=true/\qL Tryz.prog 23=true/\qL Tryz.prog 24=true/\qL Tryz.prog 25=true/\qL Tryz.prog 26=true/\qL Tryz.prog 27=true/\qL Tryz.prog 28=true/\qL Tryz.prog 29=true/\qL Tryz.prog 30=true/\qL Tryz.prog 31=true/\qL Tryz.prog 32=true/\qL Tryz.prog 33=true/\qL Tryz.prog 34=true/\qL Tryz.prog 35=true/\qL Tryz.prog 36=true/\qL Tryz.prog 37=true/\qL Tryz.prog 38=true/\qL Tryz.prog 39=true/\qL Tryz.prog 40=true/\qL Tryz.prog 41=true/\qL Tryz.prog 42=true/\qL Tryz.prog 43=true/\qL Tryz.prog 44=true/\qL Tryz.prog 45=true/\qL Tryz.prog 46=true/\qL Tryz.prog 47=true/\qL Tryz.prog 48=true/\qL Tryz.prog 49=true/\qL Tryz.prog 50=true/\qL Tryz.prog 51=true/\qL Tryz.prog 52=true/\qL Tryz.prog 53=true/\qL Tryz.prog 54=true/\qL Tryz.prog 55=true/\qL Tryz.prog 56=true/\qL Tryz.prog 57=true/\qL Tryz.prog 58=true/\qL Tryz.prog 59=true/\qL Tryz.prog 60=true/\qL Tryz.prog 61=true/\qL Tryz.prog 62=true/\qL Tryz.prog 63=true/\qL Tryz.prog 64=true/\qL Tryz.prog 65=true/\qL Tryz.prog 66=true/\qL Tryz.prog 67=true/\qL Tryz.prog 68=true/\qL Tryz.prog 69=true/\qL Tryz.prog 70=true/\qL Tryz.prog 71=true/\qL Tryz.prog 72=true/\qL Tryz.prog 73=true/\qL Tryz.prog 74=true/\qL Tryz.prog 75=true/\qL Tryz.prog 76=true/\qL Tryz.prog 77=true/\qL Tryz.prog 78=true/\qL Tryz.prog 79=true/\qL Tryz.prog 80=true/\qL Tryz.prog 81=true/\qL Tryz.prog 82=true/\qL Tryz.prog 83=true/\qL Tryz.prog 84=true/\qL Tryz.prog 85=true/\qL Tryz.prog 86=true/\qL Tryz.prog 87=true/\qL Tryz.prog 88=true/\qL Tryz.prog 89=true/\qL Tryz.prog 90=true/\qL Tryz.prog 91=true/\qL Tryz.prog 92=true/\qL Tryz.prog 93=true/\qL Tryz.prog 94=true/\qL Tryz.prog 95=true/\qL Tryz.prog 96=true/\qL Tryz.prog 97=true/\qL Tryz.prog 98=true/\qL Tryz.prog 99=true/\qL Tryz.prog 100=true/\qL Tryz.prog 101=true/\qL Tryz.prog 102=true/\qL Tryz.prog 103=true/\qL Tryz.prog 104=true/\qL Tryz.prog 105=true/\qL Tryz.prog 106=true/\qL Tryz.prog 107=true/\qL Tryz.prog 108=true/\qL Tryz.prog 109=true/\qL Tryz.prog 110=true/\qL Tryz.prog 111=true/\qL Tryz.prog 112=true/\qL Tryz.prog 113=true/\qL Tryz.prog 114=true/\qL Tryz.prog 115=true/\qL Tryz.prog 116=true/\qL Tryz.prog 117=true/\qL Tryz.prog 118=true/\qL Tryz.prog 119=true/\qL Tryz.prog 120=true/\qL Tryz.prog 121=true/\qL Tryz.prog 122=true/\qL Tryz.prog 123=true/\qL Tryz.prog 124=true/\qL Tryz.prog 125=true/\qL Tryz.prog 126=true/\qL Tryz.prog 127=true/\qL Tryz.prog 128=true/\qL Tryz.prog 129=true/\qL Tryz.prog 130=true/\qL Tryz.prog 131=true/\qL Tryz.prog 132=true/\qL Tryz.prog 133=true/\qL Tryz.prog 134=true/\qL Tryz.prog 135=true/\qL Tryz.prog 136=true/\qL Tryz.prog 137=true/\qL Tryz.prog 138=true/\qL Tryz.prog 139=true/\qL Tryz.prog 140=true/\qL Tryz.prog 141=true/\qL Tryz.prog 142=true/\qL Tryz.prog 143=true/\qL Tryz.prog 144=true/\qL Tryz.prog 145=true/\qL Tryz.prog 146=true/\qL Tryz.prog 147=true/\qL Tryz.prog 148=true/\qL Tryz.prog 149=true/\qL Tryz.prog 150=true/\qL Tryz.prog 151=true/\qL Tryz.prog 153=true/\qL Tryz.prog 154=true/\qL Tryz.prog 155=true/\qL Tryz.prog 158=true/\qL Tryz.prog 159=true/\qL Tryz.prog 160=true/\qL Tryz.prog 161=true/\qL Tryz.prog 162=true/\qL Tryz.prog 163=true/\qL Tryz.prog 164=true/\qL Tryz.prog 165=true/\qL Tryz.prog 166=true/\qL Tryz.prog 167=true/\qL Tryz.prog 169=true/\qL Tryz.prog 170=true/\qL Tryz.prog 171=true/\qL Tryz.prog 172=true/\qL Tryz.prog 173=true/\qL Tryz.prog 174=true/\qL Tryz.prog 175=true/\qL Tryz.prog 176=true/\qL Tryz.prog 179=true/\qL Tryz.prog 180=true/\qL Tryz.prog 182=true/\qL Tryz.prog 183=true/\qL Tryz.prog 186=true/\qL Tryz.prog 188=true/\qL Tryz.prog 200=true/\qL Tryz.prog 201=true/\qL Tryz.prog 207=true/\qL Tryz.prog 208=true/\qL Tryz.prog 209=true/\qL Tryz.prog 219=true/\qL Tryz.prog 226=true/\qL Tryz.prog 227=true/\qL Tryz.prog 228=true/\qL Tryz.prog 229=true/\qL Tryz.prog 235=true/\qL Tryz.prog 242=true/\qL Tryz.prog 244=true/\qL Tryz.prog 245=true/\qL Tryz.prog 256=true/\qL Tryz.prog 257=true:=by and_intros<;>kernel_rfl
@[simp] theorem fkB:qN Tryz.prog (.func 3)=false/\qN Tryz.prog (.func 4)=false/\qN Tryz.prog (.func 5)=false/\qN Tryz.prog (.func 6)=false/\qN Tryz.prog (.func 7)=false/\qN Tryz.prog (.func 8)=false/\qN Tryz.prog (.func 9)=false/\qN Tryz.prog (.func 10)=false/\qN Tryz.prog (.func 11)=false/\qN Tryz.prog (.func 12)=false/\qN Tryz.prog (.func 13)=false/\qN Tryz.prog (.func 14)=false/\qN Tryz.prog (.func 15)=false/\qN Tryz.prog (.func 16)=false/\qN Tryz.prog (.func 17)=false/\qN Tryz.prog (.func 18)=false/\qN Tryz.prog (.func 19)=false/\qN Tryz.prog (.func 20)=false/\qN Tryz.prog (.func 21)=false/\qN Tryz.prog (.func 22)=false/\qN Tryz.prog (.func 23)=false/\qN Tryz.prog (.func 24)=false/\qN Tryz.prog (.func 25)=false/\qN Tryz.prog (.func 26)=false/\qN Tryz.prog (.func 27)=false/\qN Tryz.prog (.func 28)=false/\qN Tryz.prog (.func 29)=false/\qN Tryz.prog (.func 30)=false/\qN Tryz.prog (.func 31)=false/\qN Tryz.prog (.func 32)=false/\qN Tryz.prog (.func 33)=false/\qN Tryz.prog (.func 34)=false/\qN Tryz.prog (.func 35)=false/\qN Tryz.prog (.func 36)=false/\qN Tryz.prog (.func 37)=false/\qN Tryz.prog (.func 38)=false/\qN Tryz.prog (.func 39)=false/\qN Tryz.prog (.func 40)=false/\qN Tryz.prog (.func 41)=false/\qN Tryz.prog (.func 42)=false/\qN Tryz.prog (.func 43)=false/\qN Tryz.prog (.func 44)=false/\qN Tryz.prog (.func 45)=false/\qN Tryz.prog (.func 46)=false/\qN Tryz.prog (.func 47)=false/\qN Tryz.prog (.func 48)=false/\qN Tryz.prog (.func 49)=false/\qN Tryz.prog (.func 50)=false/\qN Tryz.prog (.func 51)=false/\qN Tryz.prog (.func 52)=false/\qN Tryz.prog (.func 53)=false/\qN Tryz.prog (.func 54)=false/\qN Tryz.prog (.func 55)=false/\qN Tryz.prog (.func 56)=false/\qN Tryz.prog (.func 57)=false/\qN Tryz.prog (.func 58)=false/\qN Tryz.prog (.func 59)=false/\qN Tryz.prog (.func 60)=false/\qN Tryz.prog (.func 61)=false/\qN Tryz.prog (.func 62)=false/\qN Tryz.prog (.func 63)=false/\qN Tryz.prog (.func 64)=false/\qN Tryz.prog (.func 65)=false/\qN Tryz.prog (.func 66)=false/\qN Tryz.prog (.func 67)=false/\qN Tryz.prog (.func 68)=false/\qN Tryz.prog (.func 69)=false/\qN Tryz.prog (.func 70)=false/\qN Tryz.prog (.func 71)=false/\qN Tryz.prog (.func 72)=false/\qN Tryz.prog (.func 73)=false/\qN Tryz.prog (.func 74)=false/\qN Tryz.prog (.func 75)=false/\qN Tryz.prog (.func 76)=false/\qN Tryz.prog (.func 77)=false/\qN Tryz.prog (.func 78)=false/\qN Tryz.prog (.func 79)=false/\qN Tryz.prog (.func 80)=false/\qN Tryz.prog (.func 81)=false/\qN Tryz.prog (.func 82)=false/\qN Tryz.prog (.func 83)=false/\qN Tryz.prog (.func 84)=false/\qN Tryz.prog (.func 85)=false/\qN Tryz.prog (.func 86)=false/\qN Tryz.prog (.func 87)=false/\qN Tryz.prog (.func 88)=false/\qN Tryz.prog (.func 89)=false/\qN Tryz.prog (.func 90)=false/\qN Tryz.prog (.func 91)=false/\qN Tryz.prog (.func 92)=false/\qN Tryz.prog (.func 93)=false/\qN Tryz.prog (.func 94)=false/\qN Tryz.prog (.func 95)=false/\qN Tryz.prog (.func 96)=false/\qN Tryz.prog (.func 97)=false/\qN Tryz.prog (.func 98)=false/\qN Tryz.prog (.func 99)=false/\qN Tryz.prog (.func 100)=false/\qN Tryz.prog (.func 101)=false/\qN Tryz.prog (.func 102)=false/\qN Tryz.prog (.func 103)=false/\qN Tryz.prog (.func 104)=false/\qN Tryz.prog (.func 105)=false/\qN Tryz.prog (.func 106)=false/\qN Tryz.prog (.func 107)=false/\qN Tryz.prog (.func 108)=false/\qN Tryz.prog (.func 109)=false/\qN Tryz.prog (.func 110)=false/\qN Tryz.prog (.func 111)=false/\qN Tryz.prog (.func 112)=false/\qN Tryz.prog (.func 113)=false/\qN Tryz.prog (.func 114)=false/\qN Tryz.prog (.func 115)=false/\qN Tryz.prog (.func 116)=false/\qN Tryz.prog (.func 117)=false/\qN Tryz.prog (.func 118)=false/\qN Tryz.prog (.func 119)=false/\qN Tryz.prog (.func 120)=false/\qN Tryz.prog (.func 121)=false/\qN Tryz.prog (.func 122)=false/\qN Tryz.prog (.func 123)=false/\qN Tryz.prog (.func 124)=false/\qN Tryz.prog (.func 125)=false/\qN Tryz.prog (.func 126)=false/\qN Tryz.prog (.func 127)=false/\qN Tryz.prog (.func 128)=false/\qN Tryz.prog (.func 129)=false/\qN Tryz.prog (.func 130)=false/\qN Tryz.prog (.func 131)=false/\qN Tryz.prog (.func 132)=false/\qN Tryz.prog (.func 133)=false/\qN Tryz.prog (.func 134)=false/\qN Tryz.prog (.func 135)=false/\qN Tryz.prog (.func 136)=false/\qN Tryz.prog (.func 137)=false/\qN Tryz.prog (.func 138)=false/\qN Tryz.prog (.func 139)=false/\qN Tryz.prog (.func 140)=false/\qN Tryz.prog (.func 141)=false/\qN Tryz.prog (.func 142)=false/\qN Tryz.prog (.func 143)=false/\qN Tryz.prog (.func 144)=false/\qN Tryz.prog (.func 145)=false/\qN Tryz.prog (.func 146)=false/\qN Tryz.prog (.func 147)=false/\qN Tryz.prog (.func 148)=false/\qN Tryz.prog (.func 149)=false/\qN Tryz.prog (.func 150)=false/\qN Tryz.prog (.func 151)=false/\qN Tryz.prog (.func 153)=false/\qN Tryz.prog (.func 154)=false/\qN Tryz.prog (.func 155)=false/\qN Tryz.prog (.func 158)=false/\qN Tryz.prog (.func 159)=false/\qN Tryz.prog (.func 160)=false/\qN Tryz.prog (.func 161)=false/\qN Tryz.prog (.func 162)=false/\qN Tryz.prog (.func 163)=false/\qN Tryz.prog (.func 164)=false/\qN Tryz.prog (.func 165)=false/\qN Tryz.prog (.func 166)=false/\qN Tryz.prog (.func 167)=false/\qN Tryz.prog (.func 169)=false/\qN Tryz.prog (.func 170)=false/\qN Tryz.prog (.func 171)=false/\qN Tryz.prog (.func 172)=false/\qN Tryz.prog (.func 173)=false/\qN Tryz.prog (.func 174)=false/\qN Tryz.prog (.func 175)=false/\qN Tryz.prog (.func 176)=false/\qN Tryz.prog (.func 179)=false/\qN Tryz.prog (.func 180)=false/\qN Tryz.prog (.func 182)=false/\qN Tryz.prog (.func 183)=false/\qN Tryz.prog (.func 186)=false/\qN Tryz.prog (.func 188)=false/\qN Tryz.prog (.func 200)=false/\qN Tryz.prog (.func 201)=false/\qN Tryz.prog (.func 207)=false/\qN Tryz.prog (.func 208)=false/\qN Tryz.prog (.func 209)=false/\qN Tryz.prog (.func 219)=false/\qN Tryz.prog (.func 226)=false/\qN Tryz.prog (.func 227)=false/\qN Tryz.prog (.func 228)=false/\qN Tryz.prog (.func 229)=false/\qN Tryz.prog (.func 235)=false/\qN Tryz.prog (.func 242)=false/\qN Tryz.prog (.func 244)=false/\qN Tryz.prog (.func 245)=false/\qN Tryz.prog (.func 256)=false/\qN Tryz.prog (.func 257)=false:=by and_intros<;>exact JY (by kernel_rfl)
theorem om {a b:Prop} (h:b) (ha:a:=by first|omega|(show VZ _ _=true;kernel_rfl)|(show rdJ _ _ _ _ _=true;kernel_rfl)|(show zar _ _ _=true;kernel_rfl)|(show zma _ _ _=true;kernel_rfl)):a/\b:=⟨ha,h⟩
theorem zov {f:FuncId} {fn:Func} {code:Code} (hf:Tryz.prog.funcs[f]?=some fn) (cf:Cfg) {args:List TV} {H:q7} {R:TV->q7->Prop} (h:∀imm0 w0,vc ⟨Tryz.prog,fn.ntmps,imm0,H,w0,none⟩ cf code (zm2 Tryz.prog fn R) (entry args H)) (hb:fn.body=some code:=by rfl) (hd:KY cf fn.ntmps code=true:=by kernel_rfl) (hn:args.length.ble fn.ntmps=true:=by rfl):q6 Tryz.prog f args H R :=
 q6.of_vc laid mixed hf hb cf hd (Nat.le_of_ble_eq_true hn) h
theorem zow {f:FuncId} {fn:Func} {code:Code} (hf:Tryz.prog.funcs[f]?=some fn) (cf:Cfg) {args:List TV} {r:TV} (h:∀imm0 w0,vc ⟨Tryz.prog,fn.ntmps,imm0,[],w0,none⟩ cf code (zm2 Tryz.prog fn fun r' _=>r'=r) (entry args [])) (hb:fn.body=some code:=by rfl) (hd:KY cf fn.ntmps code=true:=by kernel_rfl) (hn:args.length.ble fn.ntmps=true:=by rfl):PC Tryz.prog f args r :=
 PC.of (zov hf cf h hb hd hn)
theorem zcv {P:Program} {s:St} {g:FuncId} {caps:List AV} {cs:List TV} {args bs:List TV} {dst:Option Nat} {K:St->Prop} {r:TV} (h:PC P g bs r) (hk:K (s.put dst r)) (hc:caps.mapM QB=some cs:=by rfl) (ha:args.all qH=true:=by first|rfl|simp[qH]) (hf:qL P g=true:=by simp) (hle:q9 ((args++cs).map TV.er) bs:=by simp[q9,TV.er,AV.er]):kL P s (.av .func (.fn g caps)) args dst K:=YE h hc ha hf hle hk
theorem zcd {P:Program} {s:St} {g:FuncId} {caps:List AV} {cs:List TV} {args bs:List TV} {dst:Option Nat} {K:St->Prop} {r:TV} (h:PC P g bs r) (hk:K (s.put dst r)) (hc:caps.mapM QB=some cs:=by rfl) (ha:args.all qH=true:=by first|rfl|simp[qH]) (hf:qL P g=true:=by simp) (hle:q9 ((args++cs).map TV.er) bs:=by simp[q9,coC,TV.er,AV.er]):gS P s (.av .func (.fn g caps)) args dst K:=XF h hc ha hf hle hk
theorem zrd (cf:Cfg) {c:Ctx} {code:Code} {K:Exit->St->Prop} {s:St} (h:vc c cf code K s) (hd:KY cf c.n code=true:=by kernel_rfl) (hl:laidOutB c.P=true:=by exact laid) (hm:c.P.follows .mixedOrders=true:=by exact mixed):AT c code K s:=W2 hl hm code K s hd h
attribute [simp] k8 z1
theorem le9:(∀l:List Dig,kD l=.sl .no (l.map qK))/\(∀l:List qD,qU l=.sl .no (l.map q5))/\(∀w:zp9,JC w=.agg [.i .i64 w.kind,.s w.path,.i .i64 w.i])/\(∀t:qD,q5 t=.agg [qK t.key,qE t.reads,qF t.outs])/\(∀l:List yH,qE l=.sl .no (l.map qV))/\(∀r:yH,qV r=.agg [.s r.path,.b r.is,qK r.sum])/\(∀l:List Made,qF l=.sl .no (l.map qS))/\∀r:Made,qS r=.agg [.s r.path,qK r.sum] :=
 ⟨fun _=>rfl,fun _=>rfl,fun _=>rfl,fun _=>rfl,fun _=>rfl,fun _=>rfl,fun _=>rfl,fun _=>rfl⟩
theorem PC.of_calls {P:Program} {f:FuncId} {args:List TV} {vs0:List Value} {r:TV} {v:Value} (hdet:∀imm w vs,ARs P (g0 imm) w args vs->vs=vs0) (hr:∀imm w,AR P (g0 imm) w r v)
  (h:∀w,Calls P f vs0.toArray w fun e w'=>e=.returned v/\w'=w):PC P f args r:=by
 intro imm w vs hrep hargs
 have:=hdet imm w vs.toList hargs
 have hv:vs=vs0.toArray:=by rw[<-this]
 subst hv
 refine(h w).mono ?_
 rintro e w' ⟨rfl,rfl⟩
 exact⟨v,r,imm,[],rfl,⟨rfl,rfl⟩,hr _ _,hrep,W8.refl⟩
@[simp] theorem zpc:qL Tryz.prog 258=true:=by kernel_rfl
@[simp] theorem zsH:qN Tryz.prog (.func 258)=false:=JY zpc
@[simp] theorem zpJ:qL Tryz.prog 246=true:=by kernel_rfl
@[simp] theorem zsD:qN Tryz.prog (.func 246)=false:=JY zpJ
@[simp] theorem zoE:qL Tryz.prog 230=true:=by kernel_rfl
@[simp] theorem zsI:qN Tryz.prog (.func 230)=false:=JY zoE
@[simp] theorem zq2:qL Tryz.prog 202=true:=by kernel_rfl
@[simp] theorem zsK:qN Tryz.prog (.func 202)=false:=JY zq2
theorem zc0 (s:ByteArray) (c:Int) (w:World) :
  Calls Tryz.prog 258 #[.string s,.int .u8 c] w fun e w'=>e=.returned (.int .i64 (Lib.indexByte s.data.toList c.toNat.toUInt8))/\w'=w:=by
 go_enter Tryz.func258,Tryz.ntmps258
 go_wp2
 rw[run_callFunc_extern Tryz.func266 (by kernel_rfl) (by kernel_rfl) (by kernel_rfl) (e:=Extern.BytealgIndexByte.indexByte) (by kernel_rfl),Lib.run_indexByteString]
 simp only[Result.andThen]
 rw[Oper.upon_value]
 go_wp2
 go_ret
 exact⟨rfl,rfl⟩
theorem zbo (l:List UInt8) (c:UInt8):PC Tryz.prog 258 [.av .str (.s l),.av (.int .u8) (.i .u8 c.toNat)] (.av (.int .i64) (.i .i64 (Lib.indexByte l c))):=by
 refine PC.of_calls (vs0:=[.string ⟨l.toArray⟩,.int .u8 c.toNat]) (v:=.int .i64 (Lib.indexByte l c)) ?_ (fun _ _=>⟨rfl,rfl,rfl⟩) ?_
 ·intro imm w vs h
  match vs,h with
  | [a,b],⟨⟨f1,_,h1⟩,⟨f2,_,h2⟩,_⟩ =>
   rw[qI rfl f1]at h1
   rw[qI rfl f2]at h2
   simp at h1 h2
   rw[h1,h2]
 ·intro w
  have:=zc0 ⟨l.toArray⟩ c.toNat w
  simpa using this
theorem WG (l:List UInt8) (c:UInt8):PC Tryz.prog 246 [.av .str (.s l),.av (.int .u8) (.i .u8 c.toNat)] (.av (.int .i64) (.i .i64 (Lib.indexByte l c))):=by
 refine PC.of <| q6.of_vc laid mixed Tryz.func246 rfl cf0 (by kernel_rfl) (by simp[Tryz.ntmps246]) fun imm0 w0=>?_
 simp (disch:=omega) [zz]
 refine YE (zbo l c) rfl rfl (by simp) (by simp[q9,TV.er,AV.er]) ?_
 simp (disch:=omega) [zz,Tryz.f246]
def KE (l p:List UInt8):Bool:=decide (l.take p.length=p)
theorem zak (l p:List UInt8) (hl:l.length<=9223372036854775807) (hp:p.length<=9223372036854775807):PC Tryz.prog 230 [.av .str (.s l),.av .str (.s p)] (.av .bool (.b (KE l p))):=by
 refine PC.of <| q6.of_vc laid mixed Tryz.func230 rfl cf0 (by kernel_rfl) (by simp[Tryz.ntmps230]) fun imm0 w0=>?_
 by_cases h:p.length<=l.length
 ·have h':(p.length:Int)<=l.length:=by omega
  simp (disch:=omega) [zz,h',Tryz.f230,KE]
 ·have h':¬(p.length:Int)<=l.length:=by omega
  have h2:¬l.take p.length=p:=fun e=>by have:=congrArg List.length e;simp at this;omega
  simp (disch:=omega) [zz,h',Tryz.f230,KE,h2]
theorem zej (l p:List UInt8) (hl:l.length<=9223372036854775807) (hp:p.length<=9223372036854775807):PC Tryz.prog 202 [.av .str (.s l),.av .str (.s p)] (.av .bool (.b (KE l p))):=by
 refine PC.of <| q6.of_vc laid mixed Tryz.func202 rfl cf0 (by kernel_rfl) (by simp[Tryz.ntmps202]) fun imm0 w0=>?_
 simp (disch:=omega) [zz]
 refine YE (zak l p hl hp) rfl rfl (by simp) (by simp[q9,TV.er,AV.er]) ?_
 simp (disch:=omega) [zz,Tryz.f202]
end Go.Proofs.YtognnffjdckalaaGreatDoor
