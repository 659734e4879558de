/- An action's text in its one form, and whether two are one: the program. No condition beyond each theorem's own. -/
import Derived.Test.YtidhkfcjichiiaaGreatDoorP25aToFK3
import Derived.Test.YtidhkfcjichiiaaGreatDoorBE1aToFK0
set_option linter.unusedSimpArgs false
set_option linter.unusedVariables false
set_option linter.unusedSectionVars false
section
set_option maxRecDepth 100000
namespace Go.Proofs.YtidhkfcjichiiaaGreatDoor
open Go Go.Ab
open Classical
variable [Sel] [SelPow] [SelMax]
theorem zyW {N:Nat} (hN:N≤1000000000000000):∀l:List Txt,(∀x∈l,x.length≤N)→(WI l).length≤(N+22)*l.length
 | [],_=>by simp[WI]
 | x::l,h=>by
  have ih:=zyW hN l fun y hy=>h y (by simp[hy])
  have hx:=h x (by simp)
  have hi:(Lib.itoa (x.length:Int)).length≤21:=Lib.itoa_length_le _ (by omega) (by omega)
  simp only[WI,List.length_append,List.length_cons,Nat.mul_add,Nat.mul_one]
  omega
theorem zyN (l:List Txt):(zyE l).length≤l.length:=by
 have:=zaW (kK l)
 rw[ZO]at this;exact this
theorem zzj (l:List (Txt × Txt)):(zyK l).length≤2*l.length:=by
 have:=zz0 l
 rw[zyK,zyS,ZO,List.length_map];omega
theorem zzD {l:List (Txt × Txt)} {x:Txt} (h:x∈zyK l):∃s∈l,x=s.1∨x=s.2:=by
 obtain⟨n,hn,hx⟩:=List.mem_flatMap.1 h
 have hn:=(W0 _).mem_iff.1 hn
 rw[zz9,zyF]at hn
 obtain⟨s,hs⟩:=Option.isSome_iff_exists.1 hn
 refine⟨s,List.mem_of_find?_eq_some hs,?_⟩
 have h1:s.1=n:=by simpa using List.find?_some hs
 have h2:zzl (zyG l) n=s.2:=by unfold zzl;rw[zyF,hs];rfl
 simp only[h2,List.mem_cons,List.not_mem_nil,or_false]at hx
 rcases hx with rfl|rfl
 ·exact .inl h1.symm
 ·exact .inr rfl
theorem zzC {a:xW} (ha:vA a≤2000):(WI (zyK a.env)).length≤10000000∧(WI (zyE a.ins)).length≤10000000∧(WI (zyE a.asks)).length≤10000000∧(WI (zyE a.outs)).length≤10000000:=by
 have hb:=zbN ha
 unfold vA at ha
 have e1:=pU a.env
 have e2:=WB a.ins
 have e3:=WB a.asks
 have e4:=WB a.outs
 have st:∀l:List Txt,txW l≤2000→(WI (zyE l)).length≤10000000:=fun l hl=>by
  have h1:=zyW (N:=2000) (by decide) (zyE l) fun x hx=>by
   have:=zll ((zyX x l).1 hx);omega
  have h2:=zyN l
  have h3:=WB l
  have h4:(2000+22)*(zyE l).length≤(2000+22)*2000:=Nat.mul_le_mul_left _ (by omega)
  omega
 refine⟨?_,st _ (by omega),st _ (by omega),st _ (by omega)⟩
 have h1:=zyW (N:=2000) (by decide) (zyK a.env) fun x hx=>by
  obtain⟨s,hs,hx⟩:=zzD hx
  have:=zmB hs
  rcases hx with rfl|rfl<;>omega
 have h2:=zzj a.env
 have h4:(2000+22)*(zyK a.env).length≤(2000+22)*4000:=Nat.mul_le_mul_left _ (by omega)
 omega
abbrev zAz:Cfg:=⟨fun _=>false,fun _=>false⟩
set_option maxHeartbeats 16000000 in
theorem zzq (a:xW) (ha:vA a≤2000):PC Tryz.prog 74 [.av UI (kT a)] (.av .str (.s (zz5 a))):=by
 have hb:=zbN ha
 obtain⟨l1,l2,l3,l4⟩:=zzC ha
 have he:=zAu a.env hb.be
 have hi:=zzm a.ins hb.bi
 have hk:=zzm a.asks hb.ba
 have ho:=zzm a.outs hb.bo
 have hkv:zz5 a=WI [a.tool,WI (zyK a.env),WI (zyE a.ins),WI (zyE a.asks),WI (zyE a.outs)]:=rfl
 obtain⟨E,hE⟩:∃E,E=zyK a.env:=⟨_,rfl⟩
 obtain⟨I,hI⟩:∃E,E=zyE a.ins:=⟨_,rfl⟩
 obtain⟨K0,hK⟩:∃E,E=zyE a.asks:=⟨_,rfl⟩
 obtain⟨O,hO⟩:∃E,E=zyE a.outs:=⟨_,rfl⟩
 rw[←hE]at he hkv l1
 rw[←hI]at hi hkv l2
 rw[←hK]at hk hkv l3
 rw[←hO]at ho hkv l4
 refine PC.of <| q7.of_vc laid mixed Tryz.func74 rfl zAz (by kernel_rfl) (by simp[Tryz.ntmps74]) fun imm0 w0=>?_
 (simp (maxSteps:=2000000) (disch:=first|omega|assumption) [zz,-List.reduceReplicate,kT])
 (repeat with_reducible refine om ?_)
 have e1:=v8 a.env
 have e2:=fun l=>zyQ l
 refine jC he rfl rfl (by simp) (by simp[qS,coC,TV.er,AV.er,e1]) ?_
 (simp (maxSteps:=2000000) (disch:=first|omega|assumption) [zz,-List.reduceReplicate])
 (repeat with_reducible refine om ?_)
 refine jC hi rfl rfl (by simp) (by simp[qS,coC,TV.er,AV.er,e2]) ?_
 (simp (maxSteps:=2000000) (disch:=first|omega|assumption) [zz,-List.reduceReplicate])
 (repeat with_reducible refine om ?_)
 refine jC hk rfl rfl (by simp) (by simp[qS,coC,TV.er,AV.er,e2]) ?_
 (simp (maxSteps:=2000000) (disch:=first|omega|assumption) [zz,-List.reduceReplicate])
 (repeat with_reducible refine om ?_)
 refine jC ho rfl rfl (by simp) (by simp[qS,coC,TV.er,AV.er,e2]) ?_
 (simp (maxSteps:=2000000) (disch:=first|omega|assumption) [zz])
 (repeat with_reducible refine om ?_)
 obtain⟨rows,hrows⟩:∃r:List (List Txt),r=[E,I,K0,O]:=⟨_,rfl⟩
 have hrm:[AV.sl Tok.no (strs E),.sl .no (strs I),.sl .no (strs K0),.sl .no (strs O)]=rows.map UY:=by rw[hrows];rfl
 have hrl:rows.length=4:=by rw[hrows];rfl
 obtain⟨Rt,hRt⟩:∃r:List Txt,r=rows.map WI:=⟨_,rfl⟩
 have hRl:Rt.length=4:=by rw[hRt,List.length_map,hrl]
 have hkw:zz5 a=WI (a.tool::Rt):=by rw[hkv,hRt,hrows];rfl
 have hrb:∀x∈rows,(WI x).length≤10000000∧x.length≤1000000000:=by
  have q1:E.length≤1000000000:=by have:=zzj a.env;have:=hb.be;rw[hE];omega
  have q2:I.length≤1000000000:=by have:=zyN a.ins;have:=hb.bi;rw[hI];omega
  have q3:K0.length≤1000000000:=by have:=zyN a.asks;have:=hb.ba;rw[hK];omega
  have q4:O.length≤1000000000:=by have:=zyN a.outs;have:=hb.bo;rw[hO];omega
  rw[hrows]
  simp only[List.mem_cons,List.not_mem_nil,or_false]
  rintro x (rfl|rfl|rfl|rfl)
  ·exact⟨l1,q1⟩
  ·exact⟨l2,q2⟩
  ·exact⟨l3,q3⟩
  ·exact⟨l4,q4⟩
 clear hE hI hK hO he hi hk ho l1 l2 l3 l4 hkv
 rw[hrm]
 clear hrm hrows
 refine AT.loop' (α:=Nat) (fun k=>St.of [(4,.av TxS (.sl (tkE 33 k) (strs (a.tool::Rt.take k)))),(23,.av (.slice 25) (.sl .full (rows.map UY))),(24,.av (.int .i64) (.i .i64 4)),(25,.av (.int .i64) (.i .i64 k))] [] (fun j=>if j=33 then k else 0) [])
  (fun k=>k≤4) (fun k=>4-k) 0 ?_ ?_ ?_
 ·refine Le.of ?_ ?_ ?_ ?_ ?_<;>simp[qU,qG,zX,tkE,strs]<;>try omega
 ·omega
 rintro k hk4 KL hN hE
 refine qM (cf:=zAz) laid mixed _ _ _ (by kernel_rfl) ?_
 by_cases hlt:k<4
 ·have hlt':(k:Int)<4:=by omega
  have hg:=zm7 rows k (by omega)
  obtain⟨x,hx⟩:∃x,x=rows[k]'(by omega):=⟨_,rfl⟩
  have hxb:=hrb x (by rw[hx];exact List.getElem_mem _)
  have hRk:Rt[k]'(by omega)=WI x:=by simp only[hRt,List.getElem_map,hx]
  have hst:strs (a.tool::Rt.take (k+1))=strs (a.tool::Rt.take k)++[AV.s (WI x)]:=by
   rw[List.take_succ_eq_append_getElem (by omega),hRk];simp only[strs,List.map_append,List.map_cons,List.map_nil,List.cons_append]
  rw[←hx]at hg
  have hrow:PC Tryz.prog 90 [.av (.slice 9) (.sl .no (strs x))] (.av .str (.s (WI x))):=zzx x (by omega) (by omega)
  have htl:(strs (a.tool::Rt.take k)).length=k+1:=by rw[qX,List.length_cons,List.length_take];omega
  (simp (maxSteps:=2000000) (disch:=first|omega|assumption) [zz,-List.reduceReplicate,hlt',hg,hrl,UY])
  refine qL hrow rfl rfl (by simp) (by simp[qS,TV.er,AV.er,e2]) ?_
  cases k with
  | zero =>
   (simp (maxSteps:=2000000) (disch:=first|omega|assumption) [zz,tkE])
   (simp (maxSteps:=2000000) (disch:=first|omega|assumption) [zz,wB,htl])
   (repeat with_reducible refine om ?_)
   have hst1:strs (a.tool::Rt.take 1)=strs [a.tool]++[AV.s (WI x)]:=hst
   refine hN _ 1 ?_ (by omega) (by omega)
   refine Le.of ?_ ?_ ?_ ?_ ?_<;>simp[qU,qG,tkE,hst1]<;>try omega
  | succ k =>
   (simp (maxSteps:=2000000) (disch:=first|omega|assumption) [zz,tkE])
   (simp (maxSteps:=2000000) (disch:=first|omega|assumption) [zz,wB,htl])
   (repeat with_reducible refine om ?_)
   refine hN _ (k+2) ?_ (by omega) (by omega)
   refine Le.of ?_ ?_ ?_ ?_ ?_<;>simp[qU,qG,tkE,hst]<;>try omega
   all_goals (intro j;by_cases hj:j=33<;>simp[hj])
 ·have hkn:k=4:=by omega
  subst hkn
  have htk:Rt.take 4=Rt:=List.take_of_length_le (by omega)
  have hrow:PC Tryz.prog 90 [.av (.slice 9) (.sl .no (strs (a.tool::Rt)))] (.av .str (.s (zz5 a))):=by
   rw[hkw]
   refine zzx (a.tool::Rt) (by simp[hRl]) ?_
   have:=zyW (N:=10000000) (by decide) (a.tool::Rt) fun x hx=>by
    rcases List.mem_cons.1 hx with rfl|hx
    ·have:=hb.bt;omega
    ·rw[hRt]at hx
     obtain⟨y,hy,rfl⟩:=List.mem_map.1 hx
     exact(hrb y hy).1
   simp only[List.length_cons,hRl]at this
   omega
  (simp (maxSteps:=2000000) (disch:=first|omega|assumption) [zz,-List.reduceReplicate,htk])
  refine hE _ _ (by simp) ?_
  (simp (maxSteps:=2000000) (disch:=first|omega|assumption) [zz,-List.reduceReplicate,htk])
  refine qL hrow rfl rfl (by simp) (by simp[qS,TV.er,AV.er,e2]) ?_
  (simp (maxSteps:=2000000) (disch:=first|omega|assumption) [zz,-List.reduceReplicate,Tryz.f74])
theorem zzH (a b:xW) (ha:vA a≤2000) (hb:vA b≤2000):PC Tryz.prog 33 [.av UI (kT a),.av UI (kT b)] (.av .bool (.b (decide (zz5 a=zz5 b)))):=by
 have h1:=zzq a ha
 have h2:=zzq b hb
 have e1:=YB a
 have e2:=YB b
 obtain⟨A,hA⟩:∃A,A=kT a:=⟨_,rfl⟩
 obtain⟨B,hB⟩:∃A,A=kT b:=⟨_,rfl⟩
 rw[←hA]at h1 e1 ⊢
 rw[←hB]at h2 e2 ⊢
 refine PC.of <| q7.of_vc laid mixed Tryz.func33 rfl zAz (by kernel_rfl) (by simp[Tryz.ntmps33]) fun imm0 w0=>?_
 (simp (maxSteps:=2000000) (disch:=first|omega|assumption) [zz,-List.reduceReplicate])
 (repeat with_reducible refine om ?_)
 refine jC h1 rfl rfl (by simp) (by simp[qS,coC,TV.er,AV.er,e1]) ?_
 (simp (maxSteps:=2000000) (disch:=first|omega|assumption) [zz,-List.reduceReplicate])
 (repeat with_reducible refine om ?_)
 refine jC h2 rfl rfl (by simp) (by simp[qS,coC,TV.er,AV.er,e2]) ?_
 (simp (maxSteps:=2000000) (disch:=first|omega|assumption) [zz,-List.reduceReplicate])
 (repeat with_reducible refine om ?_)
 (simp (maxSteps:=2000000) (disch:=first|omega|assumption) [zz,-List.reduceReplicate,Tryz.f33])
@[simp] theorem zwL:qZ Tryz.prog 35=true:=by kernel_rfl
@[simp] theorem zxy:z8 Tryz.prog (.func 35)=false:=q9 zwL
@[simp] theorem zwX:qZ Tryz.prog 78=true:=by kernel_rfl
@[simp] theorem zxq:z8 Tryz.prog (.func 78)=false:=q9 zwX
@[simp] theorem znS:qZ Tryz.prog 79=true:=by kernel_rfl
@[simp] theorem zrJ:z8 Tryz.prog (.func 79)=false:=q9 znS
@[simp] theorem zx6:qZ Tryz.prog 77=true:=by kernel_rfl
@[simp] theorem zxx:z8 Tryz.prog (.func 77)=false:=q9 zx6
@[simp] theorem zon:qZ Tryz.prog 80=true:=by kernel_rfl
@[simp] theorem zs7:z8 Tryz.prog (.func 80)=false:=q9 zon
@[simp] theorem zAs:qZ Tryz.prog 82=true:=by kernel_rfl
@[simp] theorem zBi:z8 Tryz.prog (.func 82)=false:=q9 zAs
@[simp] theorem zwM:qZ Tryz.prog 76=true:=by kernel_rfl
@[simp] theorem zxe:z8 Tryz.prog (.func 76)=false:=q9 zwM
@[simp] theorem zAA:qZ Tryz.prog 81=true:=by kernel_rfl
@[simp] theorem zBq:z8 Tryz.prog (.func 81)=false:=q9 zAA
abbrev zvS:TyD:=.struct [9,9]
def zw0 (f:AV) (Hs:q8) (g:U1→Bool) (ts:List U1):Prop:=Hs.er=Hs∧f.er=f∧∀x∈ts,VC1 f [.av zvS (jZ x)] Hs fun r H'=>r=.av .bool (.b (g x))∧H'=Hs
set_option maxHeartbeats 4000000 in
theorem zw3 (g:U1→Bool) (f:AV) (Hs:q8) (ts:List U1) (hf:zw0 f Hs g ts) (hn:ts.length≤1000000000) :
  q7 Tryz.prog 81 [.av (.slice 63) (zU ts),.av .func f] Hs
   fun r H'=>r=.av (.int .i64) (.i .i64 (J7 g ts))∧H'=Hs:=by
 obtain⟨ho,hfe,hff⟩:=hf
 refine q7.of_vc laid mixed Tryz.func81 rfl cf0 (by kernel_rfl) (by simp[Tryz.ntmps81]) fun imm0 w0=>?_
 (simp (maxSteps:=2000000) (disch:=first|omega|assumption) [zz,-List.reduceReplicate,zU])
 refine AT.loop' (α:=Nat) (fun k=>St.of [(0,.av (.slice 63) (.sl .no (ts.map jZ))),(1,.av .func f),(7,.av (.int .i64) (.i .i64 ts.length)),(8,.av (.int .i64) (.i .i64 k))] [] (fun _=>0) Hs)
  (fun k=>k≤ts.length∧∀x∈ts.take k,g x=false) (fun k=>ts.length-k) 0 ?_ ?_ ?_
 ·refine Le.of ?_ ?_ ?_ ?_ ?_<;>simp[qU,qG]
 ·simp
 rintro k ⟨hk',hpk⟩ KL hN hE
 refine qM (cf:=cf0) laid mixed _ _ _ (by kernel_rfl) ?_
 by_cases hlt:k<ts.length
 ·have hlt':(k:Int)<ts.length:=by omega
  have hg:=KB jZ ts k hlt
  (simp (maxSteps:=2000000) (disch:=first|omega|assumption) [zz,-List.reduceReplicate,hlt',hg])
  refine ZG (R:=fun r' H'=>r'=.av .bool (.b (g ts[k]))∧H'=Hs) Hs [] (by simp) ho (by simp[qQ]) (hff _ (List.getElem_mem hlt)) ?_
  rintro r' H' ⟨rfl,rfl⟩ _
  refine⟨H',by simpa using HSub.refl _,?_⟩
  by_cases hp:g ts[k]=true
  ·(simp (maxSteps:=2000000) (disch:=first|omega|assumption) [zz,-List.reduceReplicate,hp])
   refine hE _ _ (by simp) ?_
   (simp (maxSteps:=2000000) (disch:=first|omega|assumption) [zz,-List.reduceReplicate,Tryz.f81,uL hlt hpk hp,ho])
  ·(simp (maxSteps:=2000000) (disch:=first|omega|assumption) [zz,-List.reduceReplicate,hp])
   refine hN _ (k+1) ?_ ⟨by omega,by rw[Z2 hlt];exact⟨hpk,by simpa using hp⟩⟩ (by omega)
   refine Le.of ?_ ?_ ?_ ?_ ?_<;>simp[qU,qG]
 ·have hlt':¬(k:Int)<ts.length:=by omega
  (simp (maxSteps:=2000000) (disch:=first|omega|assumption) [zz,-List.reduceReplicate,hlt'])
  refine hE _ _ (by simp) ?_
  rw[List.take_of_length_le (by omega)]at hpk
  (simp (maxSteps:=2000000) (disch:=first|omega|assumption) [zz,-List.reduceReplicate,Tryz.f81,x9 hpk,ho])
theorem zwj (x:U1):PC Tryz.prog 77 [.av zvS (jZ x)] (.av .bool (.b (decide (65536<x.data.length)))):=by
 refine PC.of <| q7.of_vc laid mixed Tryz.func77 rfl cf0 (by kernel_rfl) (by simp[Tryz.ntmps77]) fun imm0 w0=>?_
 (simp (maxSteps:=2000000) (disch:=first|omega|assumption) [zz,-List.reduceReplicate,jZ])
 by_cases h:65536<x.data.length
 ·have h':(65536:Int)<x.data.length:=by omega
  (simp (maxSteps:=2000000) (disch:=first|omega|assumption) [zz,-List.reduceReplicate,h,h',Tryz.f77])
 ·have h':¬(65536:Int)<x.data.length:=by omega
  (simp (maxSteps:=2000000) (disch:=first|omega|assumption) [zz,-List.reduceReplicate,h,h',Tryz.f77])
theorem zvK (ts:List U1) (hn:ts.length≤1000000000):PC Tryz.prog 76 [.av (.slice 63) (zU ts),.av .func (.fn 77 [])] (.av .bool (.b (zuK ts))):=by
 have hf:zw0 (.fn 77 []) [] (fun x=>decide (65536<x.data.length)) ts:=⟨rfl,rfl,fun x hx=>⟨[],rfl,by simp,by have h9:=zwj x;unfold PC at h9;simpa[TV.er,AV.er]using h9⟩⟩
 have hef:=zdW ts
 refine PC.of <| q7.of_vc laid mixed Tryz.func76 rfl cf0 (by kernel_rfl) (by simp[Tryz.ntmps76]) fun imm0 w0=>?_
 (simp (maxSteps:=2000000) (disch:=first|omega|assumption) [zz,-List.reduceReplicate])
 refine qE (R:=fun r' H'=>r'=.av (.int .i64) (.i .i64 (J7 (fun x=>decide (65536<x.data.length)) ts))∧H'=[]) [] [] (by simp) rfl (by simp[qQ]) (by simp) ?_ ?_
 ·have:=zw3 _ _ _ ts hf hn
  simpa[TV.er,AV.er,hef]using this
 rintro r' H' ⟨rfl,rfl⟩ _
 refine⟨[],by simpa using HSub.refl _,?_⟩
 rcases YV (fun x:U1=>decide (65536<x.data.length)) ts with⟨he,hall⟩|⟨i,hi,he,hs,_⟩
 ·have hl:zuK ts=false:=by unfold zuK;rw[List.any_eq_false];intro x hx;have:=hall x hx;simpa using this
  rw[he,hl]
  (simp (maxSteps:=2000000) (disch:=first|omega|assumption) [zz,-List.reduceReplicate,Tryz.f76])
 ·have hl:zuK ts=true:=by unfold zuK;exact List.any_eq_true.2 ⟨_,List.getElem_mem hi,hs⟩
  rw[he,hl]
  have hi':(0:Int)≤i:=by omega
  (simp (maxSteps:=2000000) (disch:=first|omega|assumption) [zz,-List.reduceReplicate,hi',Tryz.f76])
theorem zwi (b:Nat) (p:Txt) (x:U1):q7 Tryz.prog 82 [.av zvS (jZ x),.av .ptr (.ptr b .str [])] [(b,zF p)] fun r H'=>r=.av .bool (.b (decide (x.path=p)))∧H'=[(b,zF p)]:=by
 refine q7.of_vc laid mixed Tryz.func82 rfl cf0 (by kernel_rfl) (by simp[Tryz.ntmps82]) fun imm0 w0=>?_
 (simp (maxSteps:=2000000) (disch:=first|omega|assumption) [zz,-List.reduceReplicate,zF,jZ])
 (simp (maxSteps:=2000000) (disch:=first|omega|assumption) [zz,-List.reduceReplicate,Tryz.f82])
noncomputable def zuP (fs:List U1):HObj:=.var (.slice 63) (zU fs)
theorem zvR (fs:List U1):(zuP fs).er=zuP fs:=by simp[zuP,HObj.er_var]
abbrev zxa:Cfg:=⟨fun n=>n==2,fun _=>false⟩
set_option maxHeartbeats 4000000 in
theorem zwu (bf:Nat) (fs:List U1) (hn:fs.length≤1000000000) (p:Txt) :
  q7 Tryz.prog 80 [.av .str (.s p),.av .ptr (.ptr bf (.slice 63) [])] [(bf,zuP fs)] fun r H'=>r=.tup [(KnT,zH (z1 fs p)),(.bool,.b true)]∧H'=[(bf,zuP fs)]:=by
 have hef:=zdW fs
 have hbe:=zvR fs
 refine q7.sub (R:=fun r H'=>r=.tup [(KnT,zH (z1 fs p)),(.bool,.b true)]∧∃H2,Ab.HSub H2 H'∧H2=[(bf,zuP fs)]) ?_ fun y H' ⟨h1,H2,h2,h3⟩ _=>⟨H2,h2,h1,h3⟩
 refine q7.of_vc laid mixed Tryz.func80 rfl zxa (by kernel_rfl) (by simp[Tryz.ntmps80]) fun imm0 w0=>?_
 (simp (maxSteps:=2000000) (disch:=first|omega|assumption) [zz,-List.reduceReplicate])
 intro b m1
 have m1':¬bf=b:=fun e=>m1 e.symm
 rw[show zuP fs=.var (.slice 63) (zU fs) from rfl]at hbe ⊢
 (simp (maxSteps:=2000000) (disch:=first|omega|assumption) [zz,-List.reduceReplicate,m1,m1'])
 have hf:zw0 (.fn 82 [.ptr b .str []]) [(b,zF p)] (fun x=>decide (x.path=p)) fs:=⟨rfl,rfl,fun x hx=>⟨_,rfl,by simp,by simpa[TV.er,AV.er]using zwi b p x⟩⟩
 refine qE (R:=fun r' H'=>r'=.av (.int .i64) (.i .i64 (J7 (fun x:U1=>decide (x.path=p)) fs))∧H'=[(b,zF p)]) [(b,zF p)] [(bf,zuP fs)] (by simp[zuP,zF]) rfl (by simp[qQ]) (by simp) ?_ ?_
 ·have:=zw3 _ _ _ fs hf hn
  simpa[TV.er,AV.er,hef,q8.er_cons,zF,HObj.er_var,AV.erk]using this
 rintro r' H' ⟨rfl,rfl⟩ _
 refine⟨_,HSub.refl _,?_⟩
 rcases ze8 (fun x:U1=>decide (x.path=p)) fs with⟨he,hf⟩|⟨i,hi,he,hf⟩
 ·have ht:z1 fs p=⟨p,false,[]⟩:=by unfold z1;rw[hf]
  rw[he,ht]
  (simp (maxSteps:=2000000) (disch:=first|omega|assumption) [zz,-List.reduceReplicate,zF,zuP,m1,m1',hbe,zH,Tryz.f80])
  exact HSub.of_sub ((List.Sublist.refl _).cons _)
 ·have ht:z1 fs p=⟨p,true,fs[i].data⟩:=by unfold z1;rw[hf]
  have hg:=KB jZ fs i hi
  have hee:AV.ers (fs.map jZ)=fs.map jZ:=by simp[AV.ers_eq,Function.comp_def]
  have hi':(i:Int)<fs.length:=by omega
  have hi0:¬(i:Int)<0:=by omega
  rw[he,ht]
  (simp (maxSteps:=2000000) (disch:=first|omega|assumption) [zz,-List.reduceReplicate,zF,zuP,m1,m1',hi',hi0,zU,hg,jZ])
  (repeat with_reducible refine om ?_)
  (simp (maxSteps:=2000000) (disch:=first|omega|assumption) [zz,-List.reduceReplicate,hbe,hee,zH,Tryz.f80])
  exact HSub.of_sub ((List.Sublist.refl _).cons _)
end Go.Proofs.YtidhkfcjichiiaaGreatDoor
end
