/- Go's library: a byte's place in a text; what text begins with. No condition. -/
import Derived.Test.YtfkcpballfhddaaGreatDoorB0
import Derived.Lib.Slices
import Derived.Lib.Walk
import Derived.Lib.Bytealg
set_option linter.unusedSimpArgs false
set_option linter.unusedVariables false
set_option linter.unusedSectionVars false
set_option maxHeartbeats 64000000
set_option maxRecDepth 100000
namespace Go.Proofs.YtfkcpballfhddaaGreatDoor
open Go Go.Ab
open Classical
variable [Sel]
theorem tnS {a b:Int} (ha:0<=a) (hb:0<=b):(a-b).toNat=a.toNat-b.toNat:=by omega
theorem zz:(∀ {n:Int},-9223372036854775808<=n->n<=9223372036854775807->IntKind.i64.wrap n=n)/\(∀ {a b:Int},0<=a->0<=b->(a-b).toNat=a.toNat-b.toNat)/\(∀ {a b:Int},0<=a->0<=b->(a+b).toNat=a.toNat+b.toNat)/\(∀ {a b:Int},0<=a->0<=b->(a*b).toNat=a.toNat*b.toNat)/\(∀ {α:Type} {a:α} {l:List α},(a::l)[0]?=some a)/\(∀ {α:Type} (a:α) (l:List α) (h:0<(a::l).length),(a::l)[0]=a) :=
 ⟨i64_in,tnS,Int.toNat_add,Int.toNat_mul,List.getElem?_cons_zero,List.getElem_cons_zero⟩
@[simp] theorem fkA:qR Tryz.prog 3=true/\qR Tryz.prog 4=true/\qR Tryz.prog 5=true/\qR Tryz.prog 6=true/\qR Tryz.prog 7=true/\qR Tryz.prog 8=true/\qR Tryz.prog 9=true/\qR Tryz.prog 10=true/\qR Tryz.prog 11=true/\qR Tryz.prog 12=true/\qR Tryz.prog 13=true/\qR Tryz.prog 14=true/\qR Tryz.prog 15=true/\qR Tryz.prog 16=true/\qR Tryz.prog 17=true/\qR Tryz.prog 18=true/\qR Tryz.prog 19=true/\qR Tryz.prog 20=true/\qR Tryz.prog 21=true/\qR Tryz.prog 22=true/\qR Tryz.prog 23=true/\qR Tryz.prog 24=true/\qR Tryz.prog 25=true/\qR Tryz.prog 26=true/\qR Tryz.prog 27=true/\qR Tryz.prog 28=true/\qR Tryz.prog 29=true/\qR Tryz.prog 30=true/\qR Tryz.prog 31=true/\qR Tryz.prog 32=true/\qR Tryz.prog 33=true/\qR Tryz.prog 34=true/\qR Tryz.prog 35=true/\qR Tryz.prog 36=true/\qR Tryz.prog 37=true/\qR Tryz.prog 38=true/\qR Tryz.prog 39=true/\qR Tryz.prog 40=true/\qR Tryz.prog 41=true/\qR Tryz.prog 44=true/\qR Tryz.prog 45=true/\qR Tryz.prog 46=true/\qR Tryz.prog 47=true/\qR Tryz.prog 48=true/\qR Tryz.prog 49=true/\qR Tryz.prog 50=true/\qR Tryz.prog 51=true/\qR Tryz.prog 52=true/\qR Tryz.prog 53=true/\qR Tryz.prog 54=true/\qR Tryz.prog 55=true/\qR Tryz.prog 56=true/\qR Tryz.prog 57=true/\qR Tryz.prog 58=true/\qR Tryz.prog 59=true/\qR Tryz.prog 60=true/\qR Tryz.prog 61=true/\qR Tryz.prog 62=true/\qR Tryz.prog 74=true/\qR Tryz.prog 75=true/\qR Tryz.prog 76=true/\qR Tryz.prog 77=true/\qR Tryz.prog 78=true/\qR Tryz.prog 79=true/\qR Tryz.prog 81=true/\qR Tryz.prog 82=true/\qR Tryz.prog 83=true/\qR Tryz.prog 84=true/\qR Tryz.prog 85=true/\qR Tryz.prog 86=true/\qR Tryz.prog 87=true/\qR Tryz.prog 88=true/\qR Tryz.prog 89=true/\qR Tryz.prog 90=true/\qR Tryz.prog 91=true/\qR Tryz.prog 92=true/\qR Tryz.prog 93=true/\qR Tryz.prog 94=true/\qR Tryz.prog 95=true/\qR Tryz.prog 96=true/\qR Tryz.prog 97=true/\qR Tryz.prog 98=true/\qR Tryz.prog 99=true/\qR Tryz.prog 100=true/\qR Tryz.prog 101=true/\qR Tryz.prog 102=true/\qR Tryz.prog 109=true/\qR Tryz.prog 110=true/\qR Tryz.prog 111=true/\qR Tryz.prog 112=true/\qR Tryz.prog 113=true/\qR Tryz.prog 114=true/\qR Tryz.prog 115=true/\qR Tryz.prog 116=true/\qR Tryz.prog 117=true/\qR Tryz.prog 118=true/\qR Tryz.prog 119=true/\qR Tryz.prog 120=true/\qR Tryz.prog 121=true/\qR Tryz.prog 122=true/\qR Tryz.prog 123=true/\qR Tryz.prog 124=true/\qR Tryz.prog 126=true/\qR Tryz.prog 127=true/\qR Tryz.prog 128=true/\qR Tryz.prog 129=true/\qR Tryz.prog 130=true/\qR Tryz.prog 132=true/\qR Tryz.prog 133=true/\qR Tryz.prog 136=true/\qR Tryz.prog 137=true/\qR Tryz.prog 138=true/\qR Tryz.prog 139=true/\qR Tryz.prog 140=true/\qR Tryz.prog 141=true/\qR Tryz.prog 142=true/\qR Tryz.prog 143=true/\qR Tryz.prog 144=true/\qR Tryz.prog 145=true/\qR Tryz.prog 146=true/\qR Tryz.prog 147=true/\qR Tryz.prog 148=true/\qR Tryz.prog 149=true/\qR Tryz.prog 150=true/\qR Tryz.prog 151=true/\qR Tryz.prog 152=true/\qR Tryz.prog 153=true/\qR Tryz.prog 154=true/\qR Tryz.prog 156=true/\qR Tryz.prog 157=true/\qR Tryz.prog 159=true/\qR Tryz.prog 160=true/\qR Tryz.prog 162=true/\qR Tryz.prog 163=true/\qR Tryz.prog 164=true/\qR Tryz.prog 165=true/\qR Tryz.prog 166=true/\qR Tryz.prog 167=true/\qR Tryz.prog 168=true/\qR Tryz.prog 169=true/\qR Tryz.prog 170=true/\qR Tryz.prog 171=true/\qR Tryz.prog 172=true/\qR Tryz.prog 173=true/\qR Tryz.prog 174=true/\qR Tryz.prog 175=true/\qR Tryz.prog 176=true/\qR Tryz.prog 177=true/\qR Tryz.prog 178=true/\qR Tryz.prog 180=true/\qR Tryz.prog 185=true/\qR Tryz.prog 186=true/\qR Tryz.prog 187=true/\qR Tryz.prog 188=true/\qR Tryz.prog 189=true/\qR Tryz.prog 190=true/\qR Tryz.prog 191=true/\qR Tryz.prog 193=true/\qR Tryz.prog 194=true/\qR Tryz.prog 200=true/\qR Tryz.prog 204=true/\qR Tryz.prog 205=true:=by and_intros<;>kernel_rfl
@[simp] theorem fkB:qX Tryz.prog (.func 3)=false/\qX Tryz.prog (.func 4)=false/\qX Tryz.prog (.func 5)=false/\qX Tryz.prog (.func 6)=false/\qX Tryz.prog (.func 7)=false/\qX Tryz.prog (.func 8)=false/\qX Tryz.prog (.func 9)=false/\qX Tryz.prog (.func 10)=false/\qX Tryz.prog (.func 11)=false/\qX Tryz.prog (.func 12)=false/\qX Tryz.prog (.func 13)=false/\qX Tryz.prog (.func 14)=false/\qX Tryz.prog (.func 15)=false/\qX Tryz.prog (.func 16)=false/\qX Tryz.prog (.func 17)=false/\qX Tryz.prog (.func 18)=false/\qX Tryz.prog (.func 19)=false/\qX Tryz.prog (.func 20)=false/\qX Tryz.prog (.func 21)=false/\qX Tryz.prog (.func 22)=false/\qX Tryz.prog (.func 23)=false/\qX Tryz.prog (.func 24)=false/\qX Tryz.prog (.func 25)=false/\qX Tryz.prog (.func 26)=false/\qX Tryz.prog (.func 27)=false/\qX Tryz.prog (.func 28)=false/\qX Tryz.prog (.func 29)=false/\qX Tryz.prog (.func 30)=false/\qX Tryz.prog (.func 31)=false/\qX Tryz.prog (.func 32)=false/\qX Tryz.prog (.func 33)=false/\qX Tryz.prog (.func 34)=false/\qX Tryz.prog (.func 35)=false/\qX Tryz.prog (.func 36)=false/\qX Tryz.prog (.func 37)=false/\qX Tryz.prog (.func 38)=false/\qX Tryz.prog (.func 39)=false/\qX Tryz.prog (.func 40)=false/\qX Tryz.prog (.func 41)=false/\qX Tryz.prog (.func 44)=false/\qX Tryz.prog (.func 45)=false/\qX Tryz.prog (.func 46)=false/\qX Tryz.prog (.func 47)=false/\qX Tryz.prog (.func 48)=false/\qX Tryz.prog (.func 49)=false/\qX Tryz.prog (.func 50)=false/\qX Tryz.prog (.func 51)=false/\qX Tryz.prog (.func 52)=false/\qX Tryz.prog (.func 53)=false/\qX Tryz.prog (.func 54)=false/\qX Tryz.prog (.func 55)=false/\qX Tryz.prog (.func 56)=false/\qX Tryz.prog (.func 57)=false/\qX Tryz.prog (.func 58)=false/\qX Tryz.prog (.func 59)=false/\qX Tryz.prog (.func 60)=false/\qX Tryz.prog (.func 61)=false/\qX Tryz.prog (.func 62)=false/\qX Tryz.prog (.func 74)=false/\qX Tryz.prog (.func 75)=false/\qX Tryz.prog (.func 76)=false/\qX Tryz.prog (.func 77)=false/\qX Tryz.prog (.func 78)=false/\qX Tryz.prog (.func 79)=false/\qX Tryz.prog (.func 81)=false/\qX Tryz.prog (.func 82)=false/\qX Tryz.prog (.func 83)=false/\qX Tryz.prog (.func 84)=false/\qX Tryz.prog (.func 85)=false/\qX Tryz.prog (.func 86)=false/\qX Tryz.prog (.func 87)=false/\qX Tryz.prog (.func 88)=false/\qX Tryz.prog (.func 89)=false/\qX Tryz.prog (.func 90)=false/\qX Tryz.prog (.func 91)=false/\qX Tryz.prog (.func 92)=false/\qX Tryz.prog (.func 93)=false/\qX Tryz.prog (.func 94)=false/\qX Tryz.prog (.func 95)=false/\qX Tryz.prog (.func 96)=false/\qX Tryz.prog (.func 97)=false/\qX Tryz.prog (.func 98)=false/\qX Tryz.prog (.func 99)=false/\qX Tryz.prog (.func 100)=false/\qX Tryz.prog (.func 101)=false/\qX Tryz.prog (.func 102)=false/\qX Tryz.prog (.func 109)=false/\qX Tryz.prog (.func 110)=false/\qX Tryz.prog (.func 111)=false/\qX Tryz.prog (.func 112)=false/\qX Tryz.prog (.func 113)=false/\qX Tryz.prog (.func 114)=false/\qX Tryz.prog (.func 115)=false/\qX Tryz.prog (.func 116)=false/\qX Tryz.prog (.func 117)=false/\qX Tryz.prog (.func 118)=false/\qX Tryz.prog (.func 119)=false/\qX Tryz.prog (.func 120)=false/\qX Tryz.prog (.func 121)=false/\qX Tryz.prog (.func 122)=false/\qX Tryz.prog (.func 123)=false/\qX Tryz.prog (.func 124)=false/\qX Tryz.prog (.func 126)=false/\qX Tryz.prog (.func 127)=false/\qX Tryz.prog (.func 128)=false/\qX Tryz.prog (.func 129)=false/\qX Tryz.prog (.func 130)=false/\qX Tryz.prog (.func 132)=false/\qX Tryz.prog (.func 133)=false/\qX Tryz.prog (.func 136)=false/\qX Tryz.prog (.func 137)=false/\qX Tryz.prog (.func 138)=false/\qX Tryz.prog (.func 139)=false/\qX Tryz.prog (.func 140)=false/\qX Tryz.prog (.func 141)=false/\qX Tryz.prog (.func 142)=false/\qX Tryz.prog (.func 143)=false/\qX Tryz.prog (.func 144)=false/\qX Tryz.prog (.func 145)=false/\qX Tryz.prog (.func 146)=false/\qX Tryz.prog (.func 147)=false/\qX Tryz.prog (.func 148)=false/\qX Tryz.prog (.func 149)=false/\qX Tryz.prog (.func 150)=false/\qX Tryz.prog (.func 151)=false/\qX Tryz.prog (.func 152)=false/\qX Tryz.prog (.func 153)=false/\qX Tryz.prog (.func 154)=false/\qX Tryz.prog (.func 156)=false/\qX Tryz.prog (.func 157)=false/\qX Tryz.prog (.func 159)=false/\qX Tryz.prog (.func 160)=false/\qX Tryz.prog (.func 162)=false/\qX Tryz.prog (.func 163)=false/\qX Tryz.prog (.func 164)=false/\qX Tryz.prog (.func 165)=false/\qX Tryz.prog (.func 166)=false/\qX Tryz.prog (.func 167)=false/\qX Tryz.prog (.func 168)=false/\qX Tryz.prog (.func 169)=false/\qX Tryz.prog (.func 170)=false/\qX Tryz.prog (.func 171)=false/\qX Tryz.prog (.func 172)=false/\qX Tryz.prog (.func 173)=false/\qX Tryz.prog (.func 174)=false/\qX Tryz.prog (.func 175)=false/\qX Tryz.prog (.func 176)=false/\qX Tryz.prog (.func 177)=false/\qX Tryz.prog (.func 178)=false/\qX Tryz.prog (.func 180)=false/\qX Tryz.prog (.func 185)=false/\qX Tryz.prog (.func 186)=false/\qX Tryz.prog (.func 187)=false/\qX Tryz.prog (.func 188)=false/\qX Tryz.prog (.func 189)=false/\qX Tryz.prog (.func 190)=false/\qX Tryz.prog (.func 191)=false/\qX Tryz.prog (.func 193)=false/\qX Tryz.prog (.func 194)=false/\qX Tryz.prog (.func 200)=false/\qX Tryz.prog (.func 204)=false/\qX Tryz.prog (.func 205)=false:=by and_intros<;>exact W5 (by kernel_rfl)
theorem om {a b:Prop} (h:b) (ha:a:=by first|omega|(show GO _ _=true;kernel_rfl)|(show rdJ _ _ _ _ _=true;kernel_rfl)|(show PO _ _ _=true;kernel_rfl)|(show zlL _ _ _=true;kernel_rfl)):a/\b:=⟨ha,h⟩
theorem zov {f:FuncId} {fn:Func} {code:Code} (hf:Tryz.prog.funcs[f]?=some fn) (cf:Cfg) {args:List TV} {H:q8} {R:TV->q8->Prop} (h:∀imm0 w0,vc ⟨Tryz.prog,fn.ntmps,imm0,H,w0,none,[]⟩ cf code (zer Tryz.prog fn R) (entry args H)) (hb:fn.body=some code:=by rfl) (hd:KH cf fn.ntmps code=true:=by kernel_rfl) (hn:args.length.ble fn.ntmps=true:=by rfl):q7 Tryz.prog f args H R :=
 q7.of_vc laid mixed hf hb cf hd (Nat.le_of_ble_eq_true hn) h
theorem zow {f:FuncId} {fn:Func} {code:Code} (hf:Tryz.prog.funcs[f]?=some fn) (cf:Cfg) {args:List TV} {r:TV} (h:∀imm0 w0,vc ⟨Tryz.prog,fn.ntmps,imm0,[],w0,none,[]⟩ cf code (zer Tryz.prog fn fun r' _=>r'=r) (entry args [])) (hb:fn.body=some code:=by rfl) (hd:KH cf fn.ntmps code=true:=by kernel_rfl) (hn:args.length.ble fn.ntmps=true:=by rfl):PC Tryz.prog f args r :=
 PC.of (zov hf cf h hb hd hn)
theorem zcv {P:Program} {s:St} {g:FuncId} {caps:List AV} {cs:List TV} {args bs:List TV} {dst:Option Nat} {K:St->Prop} {r:TV} (h:PC P g bs r) (hk:K (s.put dst r)) (hc:caps.mapM J0=some cs:=by rfl) (ha:args.all qI=true:=by first|rfl|simp[qI]) (hf:qR P g=true:=by simp) (hle:qM ((args++cs).map TV.er) bs:=by simp[qM,TV.er,AV.er]):JD P s (.av .func (.fn g caps)) args dst K:=qG h hc ha hf hle hk
theorem zcd {P:Program} {s:St} {g:FuncId} {caps:List AV} {cs:List TV} {args bs:List TV} {dst:Option Nat} {K:St->Prop} {r:TV} (h:PC P g bs r) (hk:K (s.put dst r)) (hc:caps.mapM J0=some cs:=by rfl) (ha:args.all qI=true:=by first|rfl|simp[qI]) (hf:qR P g=true:=by simp) (hle:qM ((args++cs).map TV.er) bs:=by simp[qM,coC,TV.er,AV.er]):cB P s (.av .func (.fn g caps)) args dst K:=y9 h hc ha hf hle hk
theorem zrd (cf:Cfg) {c:Ctx} {code:Code} {K:Exit->St->Prop} {s:St} (h:vc c cf code K s) (hd:KH cf c.n code=true:=by kernel_rfl) (hl:laidOutB c.P=true:=by exact laid) (hm:c.P.follows .mixedOrders=true:=by exact mixed):AT c code K s:=JO hl hm code K s hd h
attribute [simp] zA qF
theorem le9:(∀l:List Dig,Y9 l=.sl .no (l.map W0))/\(∀l:List cI,J5 l=.sl .no (l.map J2))/\(∀w:zpE,YH w=.agg [.i .i64 w.kind,.s w.path,.i .i64 w.i])/\(∀t:cI,J2 t=.agg [W0 t.key,zO t.reads,ZV t.outs])/\(∀l:List xE,zO l=.sl .no (l.map zG))/\(∀r:xE,zG r=.agg [.s r.path,.b r.is,W0 r.sum])/\(∀l:List Made,ZV l=.sl .no (l.map KO))/\∀r:Made,KO r=.agg [.s r.path,W0 r.sum] :=
 ⟨fun _=>rfl,fun _=>rfl,fun _=>rfl,fun _=>rfl,fun _=>rfl,fun _=>rfl,fun _=>rfl,fun _=>rfl⟩
theorem PC.of_calls {P:Program} {f:FuncId} {args:List TV} {vs0:List Value} {r:TV} {v:Value} (hdet:∀imm w vs,ARs P (g0 imm) w args vs->vs=vs0) (hr:∀imm w,AR P (g0 imm) w r v)
  (h:∀w,Calls P f vs0.toArray w fun e w'=>e=.returned v/\w'=w):PC P f args r:=by
 intro imm w vs hrep hargs
 have:=hdet imm w vs.toList hargs
 have hv:vs=vs0.toArray:=by rw[<-this]
 subst hv
 refine(h w).mono ?_
 rintro e w' ⟨rfl,rfl⟩
 exact⟨v,r,imm,[],rfl,⟨rfl,rfl⟩,hr _ _,hrep,JN.refl⟩
@[simp] theorem zpp:qR Tryz.prog 161=true:=by kernel_rfl
@[simp] theorem zt3:qX Tryz.prog (.func 161)=false:=W5 zpp
@[simp] theorem zpG:qR Tryz.prog 134=true:=by kernel_rfl
@[simp] theorem zsZ:qX Tryz.prog (.func 134)=false:=W5 zpG
@[simp] theorem zqo:qR Tryz.prog 155=true:=by kernel_rfl
@[simp] theorem zt1:qX Tryz.prog (.func 155)=false:=W5 zqo
@[simp] theorem zq9:qR Tryz.prog 125=true:=by kernel_rfl
@[simp] theorem zt0:qX Tryz.prog (.func 125)=false:=W5 zq9
theorem zcA (s:ByteArray) (c:Int) (w:World) :
  Calls Tryz.prog 161 #[.string s,.int .u8 c] w fun e w'=>e=.returned (.int .i64 (Lib.indexByte s.data.toList c.toNat.toUInt8))/\w'=w:=by
 go_enter Tryz.func161,Tryz.ntmps161
 go_wp2
 rw[run_callFunc_extern Tryz.func184 (by kernel_rfl) (by kernel_rfl) (by kernel_rfl) (e:=Extern.BytealgIndexByte.indexByte) (by kernel_rfl),Lib.run_indexByteString]
 simp only[Result.andThen]
 rw[Oper.upon_value]
 go_wp2
 go_ret
 exact⟨rfl,rfl⟩
theorem zbC (l:List UInt8) (c:UInt8):PC Tryz.prog 161 [.av .str (.s l),.av (.int .u8) (.i .u8 c.toNat)] (.av (.int .i64) (.i .i64 (Lib.indexByte l c))):=by
 refine PC.of_calls (vs0:=[.string ⟨l.toArray⟩,.int .u8 c.toNat]) (v:=.int .i64 (Lib.indexByte l c)) ?_ (fun _ _=>⟨rfl,rfl,rfl⟩) ?_
 ·intro imm w vs h
  match vs,h with
  | [a,b],⟨⟨f1,_,h1⟩,⟨f2,_,h2⟩,_⟩ =>
   rw[qK rfl f1]at h1
   rw[qK rfl f2]at h2
   simp at h1 h2
   rw[h1,h2]
 ·intro w
  have:=zcA ⟨l.toArray⟩ c.toNat w
  simpa using this
theorem Y8 (l:List UInt8) (c:UInt8):PC Tryz.prog 134 [.av .str (.s l),.av (.int .u8) (.i .u8 c.toNat)] (.av (.int .i64) (.i .i64 (Lib.indexByte l c))):=by
 refine PC.of <| q7.of_vc laid mixed Tryz.func134 rfl cf0 (by kernel_rfl) (by simp[Tryz.ntmps134]) fun imm0 w0=>?_
 simp (disch:=omega) [zz]
 refine qG (zbC l c) rfl rfl (by simp) (by simp[qM,TV.er,AV.er]) ?_
 simp (disch:=omega) [zz,Tryz.f134]
def wL (l p:List UInt8):Bool:=decide (l.take p.length=p)
theorem zaX (l p:List UInt8) (hl:l.length<=9223372036854775807) (hp:p.length<=9223372036854775807):PC Tryz.prog 155 [.av .str (.s l),.av .str (.s p)] (.av .bool (.b (wL l p))):=by
 refine PC.of <| q7.of_vc laid mixed Tryz.func155 rfl cf0 (by kernel_rfl) (by simp[Tryz.ntmps155]) fun imm0 w0=>?_
 by_cases h:p.length<=l.length
 ·have h':(p.length:Int)<=l.length:=by omega
  simp (disch:=omega) [zz,h',Tryz.f155,wL]
 ·have h':¬(p.length:Int)<=l.length:=by omega
  have h2:¬l.take p.length=p:=fun e=>by have:=congrArg List.length e;simp at this;omega
  simp (disch:=omega) [zz,h',Tryz.f155,wL,h2]
theorem YA (l p:List UInt8) (hl:l.length<=9223372036854775807) (hp:p.length<=9223372036854775807):PC Tryz.prog 125 [.av .str (.s l),.av .str (.s p)] (.av .bool (.b (wL l p))):=by
 refine PC.of <| q7.of_vc laid mixed Tryz.func125 rfl cf0 (by kernel_rfl) (by simp[Tryz.ntmps125]) fun imm0 w0=>?_
 simp (disch:=omega) [zz]
 refine qG (zaX l p hl hp) rfl rfl (by simp) (by simp[qM,TV.er,AV.er]) ?_
 simp (disch:=omega) [zz,Tryz.f125]
end Go.Proofs.YtfkcpballfhddaaGreatDoor
