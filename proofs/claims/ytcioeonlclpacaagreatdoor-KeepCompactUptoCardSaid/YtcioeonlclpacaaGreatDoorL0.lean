/- Go's library: a byte's place in a text; what text begins with. No condition beyond each theorem's own. -/
import Derived.Test.YtcioeonlclpacaaGreatDoorB0
import Derived.Lib.Strings
import Derived.Lib.Slices
import Derived.Lib.Walk
import Derived.Lib.Bytealg
set_option linter.unusedSimpArgs false
set_option linter.unusedVariables false
set_option linter.unusedSectionVars false
set_option maxRecDepth 100000
/-! Go's library: a byte's place in a text; what text begins with. -/
namespace Go.Proofs.YtcioeonlclpacaaGreatDoor
open Go Go.Ab
open Classical
variable [Sel]

theorem tnS {a b:Int} (ha:0≤a) (hb:0≤b):(a-b).toNat=a.toNat-b.toNat:=by omega
theorem zz:(∀ {n:Int},-9223372036854775808≤n→n≤9223372036854775807→IntKind.i64.wrap n=n)∧(∀ {a b:Int},0≤a→0≤b→(a-b).toNat=a.toNat-b.toNat)∧(∀ {a b:Int},0≤a→0≤b→(a+b).toNat=a.toNat+b.toNat)∧(∀ {a b:Int},0≤a→0≤b→(a*b).toNat=a.toNat*b.toNat)∧(∀ {α:Type} {a:α} {l:List α},(a::l)[0]?=some a)∧(∀ {α:Type} (a:α) (l:List α) (h:0<(a::l).length),(a::l)[0]=a) :=
 ⟨i64_in,tnS,Int.toNat_add,Int.toNat_mul,List.getElem?_cons_zero,List.getElem_cons_zero⟩
theorem om {a b:Prop} (h:b) (ha:a:=by first|omega|(show UZ _ _=true;kernel_rfl)|(show rdJ _ _ _ _ _=true;kernel_rfl)|(show vO _ _ _=true;kernel_rfl)|(show zhK _ _ _=true;kernel_rfl)):a∧b:=⟨ha,h⟩
theorem zov {f:FuncId} {fn:Func} {code:Code} (hf:Tryz.prog.funcs[f]?=some fn) (cf:Cfg) {args:List TV} {H:q8} {R:TV→q8→Prop} (h:∀imm0 w0,vc ⟨Tryz.prog,fn.ntmps,imm0,H,w0,none⟩ cf code (zki Tryz.prog fn R) (entry args H)) (hb:fn.body=some code:=by rfl) (hd:WN cf fn.ntmps code=true:=by kernel_rfl) (hn:args.length.ble fn.ntmps=true:=by rfl):q7 Tryz.prog f args H R :=
 q7.of_vc laid mixed hf hb cf hd (Nat.le_of_ble_eq_true hn) h
theorem zow {f:FuncId} {fn:Func} {code:Code} (hf:Tryz.prog.funcs[f]?=some fn) (cf:Cfg) {args:List TV} {r:TV} (h:∀imm0 w0,vc ⟨Tryz.prog,fn.ntmps,imm0,[],w0,none⟩ cf code (zki Tryz.prog fn fun r' _=>r'=r) (entry args [])) (hb:fn.body=some code:=by rfl) (hd:WN cf fn.ntmps code=true:=by kernel_rfl) (hn:args.length.ble fn.ntmps=true:=by rfl):PC Tryz.prog f args r :=
 PC.of (zov hf cf h hb hd hn)
theorem zcv {P:Program} {s:St} {g:FuncId} {caps:List AV} {cs:List TV} {args bs:List TV} {dst:Option Nat} {K:St→Prop} {r:TV} (h:PC P g bs r) (hk:K (s.put dst r)) (hc:caps.mapM Z5=some cs:=by rfl) (ha:args.all qQ=true:=by rfl) (hf:qZ P g=true:=by simp) (hle:qS ((args++cs).map TV.er) bs:=by simp[qS,TV.er,AV.er]):ZP P s (.av .func (.fn g caps)) args dst K:=qL h hc ha hf hle hk
theorem zcd {P:Program} {s:St} {g:FuncId} {caps:List AV} {cs:List TV} {args bs:List TV} {dst:Option Nat} {K:St→Prop} {r:TV} (h:PC P g bs r) (hk:K (s.put dst r)) (hc:caps.mapM Z5=some cs:=by rfl) (ha:args.all qQ=true:=by rfl) (hf:qZ P g=true:=by simp) (hle:qS ((args++cs).map TV.er) bs:=by simp[qS,coC,TV.er,AV.er]):dO P s (.av .func (.fn g caps)) args dst K:=jC h hc ha hf hle hk
theorem PC.of_calls {P:Program} {f:FuncId} {args:List TV} {vs0:List Value} {r:TV} {v:Value} (hdet:∀imm w vs,ARs P (g0 imm) w args vs→vs=vs0) (hr:∀imm w,AR P (g0 imm) w r v)
  (h:∀w,Calls P f vs0.toArray w fun e w'=>e=.returned v∧w'=w):PC P f args r:=by
 intro imm w vs hrep hargs
 have:=hdet imm w vs.toList hargs
 have hv:vs=vs0.toArray:=by rw[←this]
 subst hv
 refine(h w).mono ?_
 rintro e w' ⟨rfl,rfl⟩
 exact⟨v,r,imm,[],rfl,⟨rfl,rfl⟩,hr _ _,hrep,JI.refl⟩

@[simp] theorem zRG:qZ Tryz.prog 259=true:=by kernel_rfl
@[simp] theorem zT7:z8 Tryz.prog (.func 259)=false:=q9 zRG
@[simp] theorem zS8:qZ Tryz.prog 249=true:=by kernel_rfl
@[simp] theorem zTb:z8 Tryz.prog (.func 249)=false:=q9 zS8
@[simp] theorem zmP:qZ Tryz.prog 229=true:=by kernel_rfl
@[simp] theorem zqw:z8 Tryz.prog (.func 229)=false:=q9 zmP
@[simp] theorem zm9:qZ Tryz.prog 195=true:=by kernel_rfl
@[simp] theorem zqI:z8 Tryz.prog (.func 195)=false:=q9 zm9
set_option maxHeartbeats 1000000 in
theorem CF (s:ByteArray) (c:Int) (w:World) :
  Calls Tryz.prog 259 #[.string s,.int .u8 c] w fun e w'=>e=.returned (.int .i64 (Lib.indexByte s.data.toList c.toNat.toUInt8))∧w'=w:=by
 go_enter Tryz.func259,Tryz.ntmps259
 go_wp2
 rw[run_callFunc_extern Tryz.func268 (by kernel_rfl) (by kernel_rfl) (by kernel_rfl) (e:=Extern.BytealgIndexByte.indexByte) (by kernel_rfl),Lib.run_indexByteString]
 simp only[Result.andThen]
 rw[Oper.upon_value]
 go_wp2
 go_ret
 exact⟨rfl,rfl⟩

theorem dV (l:List UInt8) (c:UInt8):PC Tryz.prog 259 [.av .str (.s l),.av (.int .u8) (.i .u8 c.toNat)] (.av (.int .i64) (.i .i64 (Lib.indexByte l c))):=by
 refine PC.of_calls (vs0:=[.string ⟨l.toArray⟩,.int .u8 c.toNat]) (v:=.int .i64 (Lib.indexByte l c)) ?_ (fun _ _=>⟨rfl,rfl,rfl⟩) ?_
 ·intro imm w vs h
  match vs,h with
  | [a,b],⟨⟨f1,_,h1⟩,⟨f2,_,h2⟩,_⟩ =>
   rw[qR rfl f1]at h1
   rw[qR rfl f2]at h2
   simp at h1 h2
   rw[h1,h2]
 ·intro w
  have:=CF ⟨l.toArray⟩ c.toNat w
  simpa using this
theorem KC (l:List UInt8) (c:UInt8):PC Tryz.prog 249 [.av .str (.s l),.av (.int .u8) (.i .u8 c.toNat)] (.av (.int .i64) (.i .i64 (Lib.indexByte l c))):=by
 refine PC.of <| q7.of_vc laid mixed Tryz.func249 rfl cf0 (by kernel_rfl) (by simp[Tryz.ntmps249]) fun imm0 w0=>?_
 simp (disch:=omega) [zz]
 refine qL (dV l c) rfl rfl (by simp) (by simp[qS,TV.er,AV.er]) ?_
 simp (disch:=omega) [zz,Tryz.f249]
def Q8 (l p:List UInt8):Bool:=decide (l.take p.length=p)
theorem cH (l p:List UInt8) (hl:l.length≤9223372036854775807) (hp:p.length≤9223372036854775807):PC Tryz.prog 229 [.av .str (.s l),.av .str (.s p)] (.av .bool (.b (Q8 l p))):=by
 refine PC.of <| q7.of_vc laid mixed Tryz.func229 rfl cf0 (by kernel_rfl) (by simp[Tryz.ntmps229]) fun imm0 w0=>?_
 by_cases h:p.length≤l.length
 ·have h':(p.length:Int)≤l.length:=by omega
  simp (disch:=omega) [zz,h',Tryz.f229,Q8]
 ·have h':¬(p.length:Int)≤l.length:=by omega
  have h2:¬l.take p.length=p:=fun e=>by have:=congrArg List.length e;simp at this;omega
  simp (disch:=omega) [zz,h',Tryz.f229,Q8,h2]
theorem YW (l p:List UInt8) (hl:l.length≤9223372036854775807) (hp:p.length≤9223372036854775807):PC Tryz.prog 195 [.av .str (.s l),.av .str (.s p)] (.av .bool (.b (Q8 l p))):=by
 refine PC.of <| q7.of_vc laid mixed Tryz.func195 rfl cf0 (by kernel_rfl) (by simp[Tryz.ntmps195]) fun imm0 w0=>?_
 simp (disch:=omega) [zz]
 refine qL (cH l p hl hp) rfl rfl (by simp) (by simp[qS,TV.er,AV.er]) ?_
 simp (disch:=omega) [zz,Tryz.f195]
end Go.Proofs.YtcioeonlclpacaaGreatDoor
