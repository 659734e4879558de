/- An action by the values of its settings alone: plain. No condition beyond each theorem's own. -/
import Derived.Test.YtcgpcfcbienapaaGreatDoorFP1
import Derived.Test.YtcgpcfcbienapaaGreatDoorBF0
import Derived.Test.YtcgpcfcbienapaaGreatDoorP18ToKBs
import Derived.Test.YtcgpcfcbienapaaGreatDoorBE0
import Derived.Test.YtcgpcfcbienapaaGreatDoorBR0ToS8
import Derived.Test.YtcgpcfcbienapaaGreatDoorGB4ToKT3
set_option linter.unusedSimpArgs false
set_option linter.unusedVariables false
set_option linter.unusedSectionVars false
section
set_option maxRecDepth 100000
namespace Go.Proofs.YtcgpcfcbienapaaGreatDoor
open Go Go.Ab
open Classical
variable [Sel] [SelPow] [SelMax]
end Go.Proofs.YtcgpcfcbienapaaGreatDoor
end
section
set_option maxRecDepth 100000
namespace Go.Proofs.YtcgpcfcbienapaaGreatDoor
open Go Go.Ab
open Classical
variable [Sel] [SelPow]
def zAw (l:List UInt8):Nat:=l.foldl (fun a b=>a*10+(b.toNat-48)) 0
theorem zyH (u:Nat):zAw (Lib.decDigits u)=u:=by
 induction u using Nat.strongRecOn with
 | ind u ih =>
  have key:∀d:Nat,d<10→(UInt8.ofNat (48+d)).toNat-48=d:=fun d hd=>by simp;omega
  rw[Lib.decDigits]
  split
  ·rename_i h
   simp only[zAw,List.foldl_cons,List.foldl_nil,key u h]
   omega
  ·rename_i h
   have:=ih (u / 10) (by omega)
   unfold zAw at this ⊢
   rw[List.foldl_append,this]
   simp only[List.foldl_cons,List.foldl_nil,key (u % 10) (by omega)]
   omega
theorem zyP (n:Nat):Lib.itoa (n:Int)=Lib.decDigits n:=by
 unfold Lib.itoa
 rw[if_neg (by omega)]
 simp
theorem zyI (s:List UInt8) (l:List (List UInt8)):WI (s::l)=Lib.itoa s.length++58::(s++WI l):=by
 simp[WI]
end Go.Proofs.YtcgpcfcbienapaaGreatDoor
end
section
set_option maxRecDepth 100000
namespace Go.Proofs.YtcgpcfcbienapaaGreatDoor
open Go Go.Ab
open Classical
variable [Sel] [SelPow] [SelMax]
def zyY (p d:Txt):List (Txt × Txt)→List (Txt × Txt)
 | []=>[(p,d)]
 | x::r=>if x.1=p then(p,d)::r else x::zyY p d r
theorem zz7 (p d:Txt):∀l:List (Txt × Txt),xX (.s p) (.s d) (wrE l)=wrE (zyY p d l)
 | []=>rfl
 | x::l=>by
  have ih:=zz7 p d l
  simp only[wrE,List.map_cons,xX,zyY,AV.s.injEq]at ih ⊢
  grind
def zyG:List (Txt × Txt)→List (Txt × Txt)
 | []=>[]
 | x::l=>zyY x.1 x.2 (zyG l)
theorem zza (p d q:Txt):∀l:List (Txt × Txt),((zyY p d l).find? fun x=>decide (x.1=q))=if p=q then some (p,d) else l.find? fun x=>decide (x.1=q)
 | []=>by
  simp[zyY]
 | x::l=>by
  have ih:=zza p d q l
  rw[zyY]
  grind
theorem zyF (q:Txt):∀l:List (Txt × Txt),((zyG l).find? fun x=>decide (x.1=q))=l.find? fun x=>decide (x.1=q)
 | []=>rfl
 | x::l=>by
  rw[zyG,zza,zyF q l,List.find?_cons]
  grind
theorem zzi (p d:Txt):∀l:List (Txt × Txt),(zyY p d l).length≤l.length+1
 | []=>by simp[zyY]
 | x::l=>by
  have:=zzi p d l
  rw[zyY];split<;>simp<;>omega
theorem zz0:∀l:List (Txt × Txt),(zyG l).length≤l.length
 | []=>by simp[zyG]
 | x::l=>by have:=zzi x.1 x.2 (zyG l);have:=zz0 l;rw[zyG];simp;omega
def zzl (m:List (Txt × Txt)) (n:Txt):Txt:=((m.find? fun x=>decide (x.1=n)).getD ([],[])).2
def zyD (m:List (Txt × Txt)) (l:List Txt):List Txt:=l.flatMap fun n=>[n,zzl m n]
noncomputable def zyK (l:List (Txt × Txt)):List Txt:=zyD (zyG l) (kK ((zyG l).map (·.1)))
noncomputable def zyE (l:List Txt):List Txt:=kF (kK l)
noncomputable def zz5 (a:xW):Txt:=WI [a.tool,WI (zyK a.env),WI (zyE a.ins),WI (zyE a.asks),WI (zyE a.outs)]
theorem zzc (x:Txt):∀l:List Txt,x∈kF l↔x∈l
 | []=>by simp[kF]
 | [y]=>by simp[kF]
 | y::z::r=>by
  have ih:=zzc x (z::r)
  rw[kF]
  grind
theorem zyX (x:Txt) (l:List Txt):x∈zyE l↔x∈l:=by
 rw[zyE,zzc];exact(List.mergeSort_perm _ _).mem_iff
theorem zz9 {p:Txt} {l:List (Txt × Txt)}:p∈l.map (·.1)↔(l.find? fun x=>decide (x.1=p)).isSome:=by
 simp
@[simp] theorem zof:qZ Tryz.prog 44=true:=by kernel_rfl
@[simp] theorem zsk:z8 Tryz.prog (.func 44)=false:=q9 zof
@[simp] theorem znS:qZ Tryz.prog 79=true:=by kernel_rfl
@[simp] theorem zrJ:z8 Tryz.prog (.func 79)=false:=q9 znS
@[simp] theorem zon:qZ Tryz.prog 80=true:=by kernel_rfl
@[simp] theorem zs7:z8 Tryz.prog (.func 80)=false:=q9 zon
@[simp] theorem zA0:qZ Tryz.prog 119=true:=by kernel_rfl
@[simp] theorem zAN:z8 Tryz.prog (.func 119)=false:=q9 zA0
@[simp] theorem zkZ:qZ Tryz.prog 158=true:=by kernel_rfl
@[simp] theorem zqd:z8 Tryz.prog (.func 158)=false:=q9 zkZ
@[simp] theorem zme:qZ Tryz.prog 117=true:=by kernel_rfl
@[simp] theorem zqU:z8 Tryz.prog (.func 117)=false:=q9 zme
@[simp] theorem zzP:qZ Tryz.prog 157=true:=by kernel_rfl
@[simp] theorem zBg:z8 Tryz.prog (.func 157)=false:=q9 zzP
abbrev zBj:Cfg:=⟨fun n=>n==1,fun _=>false⟩
noncomputable def vbO (l:List Txt):HObj:=.var TxS (.sl .no (strs l))
theorem zyQ (l:List Txt):AV.ers (strs l)=strs l:=by simp[strs,AV.ers_eq,Function.comp_def,AV.er]
theorem zzI (l:List Txt):(vbO l).er=vbO l:=by simp[vbO,HObj.er_var,AV.erk]
theorem zzt (l:List Txt):q7 Tryz.prog 119 [.av TxS (.sl .no (strs l))] [] fun r H'=>∃c,r=.av .func (.fn 158 [.ptr c TxS []])∧H'=[(c,vbO l)]:=by
 refine zov Tryz.func119 zBj fun imm0 w0=>?_
 (simp (maxSteps:=2000000) (disch:=first|omega|assumption) [zz,-List.reduceReplicate])
 intro c
 (simp (maxSteps:=2000000) (disch:=first|omega|assumption) [zz,-List.reduceReplicate,Tryz.f119,vbO,AV.ers,zyQ])
set_option maxHeartbeats 4000000 in
theorem zzk (c:Nat) (l:List Txt) (hl:l.length≤1000000000):zzE 158 c TxS [(c,vbO l)] l:=by
 have hbe:=zzI l
 refine⟨by simp,by simp only[q8.er_cons,q8.er_nil,hbe],fun G y hGe hY H hG=>?_⟩
 have hsl:=qX l
 refine zov Tryz.func158 cf0 fun imm0 w0=>?_
 (simp (maxSteps:=2000000) (disch:=first|omega|assumption) [zz,-List.reduceReplicate,vbO,hsl])
 refine AT.loop' (α:=Nat × q8) (fun p=>St.of [(0,.av .func (.yl y)),(1,.av .ptr (.ptr c TxS [])),(5,.av TxS (.sl .no (strs l))),(6,.av (.int .i64) (.i .i64 l.length)),(7,.av (.int .i64) (.i .i64 p.1))] [] (fun _=>0) ((c,vbO l)::p.2))
  (fun p=>p.1≤l.length∧G (l.take p.1) p.2) (fun p=>l.length-p.1) (0,H) ?_ ?_ ?_
 ·apply Le.of<;>simp[qU,qG,vbO]<;>try omega
 ·exact⟨by omega,hG⟩
 rintro⟨k,H1⟩ ⟨hk,hG1⟩ KL hN hE
 simp only at hk hG1 hN
 refine qM (cf:=cf0) laid mixed _ _ _ (by kernel_rfl) ?_
 by_cases hlt:k<l.length
 ·have hlt':(k:Int)<l.length:=by omega
  have hg:=yH l k hlt
  (simp (maxSteps:=2000000) (disch:=first|omega|assumption) [zz,-List.reduceReplicate,hlt',hg,vbO,hsl])
  refine JY (R:=fun r H'=>r=.av .bool (.b true)∧G (l.take (k+1)) H') H1 [(c,vbO l)] (List.perm_append_comm (l₁:=[_])) (by simp[qQ]) ?_ ?_
  ·rw[hGe _ _ hG1,List.take_succ_eq_append_getElem hlt]
   have:=hY _ l[k] _ (by rw[List.length_take];omega) hG1
   simpa[TV.er,strs,AV.er]using this
  rintro r H2 ⟨rfl,hG2⟩ _
  refine⟨(c,vbO l)::H2,HSub.of_perm (List.perm_append_comm (l₂:=[_])),?_⟩
  (simp (maxSteps:=2000000) (disch:=first|omega|assumption) [zz,-List.reduceReplicate])
  refine hN _ (k+1,H2) ?_ ⟨by omega,hG2⟩ (by simp only;omega)
  apply Le.of<;>simp[qU,qG,vbO]<;>try omega
 ·have hlt':¬(k:Int)<l.length:=by omega
  (simp (maxSteps:=2000000) (disch:=first|omega|assumption) [zz,-List.reduceReplicate,hlt',hsl])
  refine hE _ _ (by simp) ?_
  rw[List.take_of_length_le (by omega)]at hG1
  have hH:=hGe _ _ hG1
  (simp (maxSteps:=2000000) (disch:=first|omega|assumption) [zz,-List.reduceReplicate,Tryz.f158,hH,hbe])
  exact⟨l,List.Perm.refl _,hG1,rfl⟩
theorem KF.freeze {f:FuncId} {args:List TV} {ws:List Txt} (h:q7 Tryz.prog f args [] fun r H'=>∃v,r=.av TxS v∧KF ws v H'):PC Tryz.prog f args (.av TxS (.sl .no (strs ws))):=by
 refine h.freeze laid ?_
 rintro r H' ⟨v,rfl,⟨rfl,rfl,rfl⟩|⟨b,cap,j,hj,rfl,hc,rfl⟩⟩ _
 ·exact .inr ⟨rfl,rfl⟩
 ·refine .inl ⟨b,cap,9,_,[],List.Perm.refl _,?_,rfl⟩
  simp only[zho,fzA]
  rw[if_pos ⟨trivial,trivial,by omega,by omega⟩,List.drop_zero,List.take_left' (by simp[strs])]
set_option maxHeartbeats 4000000 in
theorem zzm (l:List Txt) (hl:l.length≤1000000):PC Tryz.prog 80 [.av TxS (.sl .no (strs l))] (.av TxS (.sl .no (strs (zyE l)))):=by
 refine KF.freeze ?_
 refine q7.sub (R:=fun r H'=>∃v H2,Ab.HSub H2 H'∧r=.av TxS v∧KF (zyE l) v H2) ?_ fun r H' ⟨v,H2,h1,h2,h3⟩ _=>⟨H2,h1,v,h2,h3⟩
 have hse:=zyQ l
 refine zov Tryz.func80 cf0 fun imm0 w0=>?_
 (simp (maxSteps:=2000000) (disch:=first|omega|assumption) [zz,-List.reduceReplicate])
 refine jP (R:=fun r H'=>∃c,r=.av .func (.fn 158 [.ptr c TxS []])∧H'=[(c,vbO l)]) rfl (by simp[qQ]) (by simp) ?_ ?_
 ·simpa[TV.er,AV.er,hse]using zzt l
 rintro r H' ⟨c,rfl,rfl⟩
 have hbe:=zzI l
 (simp (maxSteps:=2000000) (disch:=first|omega|assumption) [zz,-List.reduceReplicate])
 refine jP (R:=wS l [(c,vbO l)]) rfl (by simp[qQ]) (by simp) ?_ ?_
 ·have:=ze9 (zzk c l (by omega)) hl
  simpa[TV.er,AV.er,AV.ers,q8.er_cons,q8.er_nil,hbe]using this
 rintro r H' ⟨v,H1,rfl,hrow,rfl⟩
 obtain⟨e1,e2⟩:=hrow.er
 (simp (maxSteps:=2000000) (disch:=first|omega|assumption) [zz,-List.reduceReplicate])
 refine qE (R:=fun r H'=>∃v',r=.av TxS v'∧KF (kF (kK l)) v' H') H1 [(c,vbO l)] (List.Perm.refl _) rfl (by simp[qQ]) (by simp) ?_ ?_
 ·have:=zfv (kK l) v H1 hrow (by rw[ZO];omega)
  simpa[TV.er,e1,e2]using this
 rintro r H' ⟨v',rfl,hrow'⟩ _
 refine⟨_,HSub.refl _,?_⟩
 obtain⟨e3,e4⟩:=hrow'.er
 (simp (maxSteps:=2000000) (disch:=first|omega|assumption) [zz,-List.reduceReplicate,e3,e4,hbe,q8.er_app,Tryz.f80])
 exact⟨v',H',HSub.of_sub (List.sublist_append_left _ _),rfl,hrow'⟩
abbrev SeS:TyD:=.slice 84
abbrev SeT:TyD:=.struct [9,9]
def sts (l:List (Txt × Txt)):List AV:=l.map Z7
theorem zzd (l:List (Txt × Txt)):AV.ers (sts l)=sts l:=by simp[sts,Z7,AV.ers_eq,Function.comp_def,AV.er,AV.ers]
noncomputable def seO (l:List (Txt × Txt)):HObj:=.var SeS (.sl .no (sts l))
theorem zzz (l:List (Txt × Txt)):(seO l).er=seO l:=by simp[seO,HObj.er_var,AV.erk,zzd]
abbrev zBp:Cfg:=⟨fun n=>n==1,fun _=>false⟩
theorem zze (l:List (Txt × Txt)):q7 Tryz.prog 117 [.av SeS (.sl .no (sts l))] [] fun r H'=>∃c,r=.av .func (.fn 157 [.ptr c SeS []])∧H'=[(c,seO l)]:=by
 refine zov Tryz.func117 zBp fun imm0 w0=>?_
 simp (disch:=omega) [zz]
 intro c
 simp (disch:=omega) [zz,Tryz.f117,seO,AV.ers,zzd]
set_option maxHeartbeats 4000000 in
theorem zzv {G:Nat→q8→Prop} (y c:Nat) (l:List (Txt × Txt)) (hl:l.length≤1000000000) (hGe:∀k H,G k H→H.er=H)
  (hY:∀k (hk:k<l.length) H,G k H→YC Tryz.prog y [.av (.int .i64) (.i .i64 (l.length-1-k:Nat)),.av SeT (Z7 (l[l.length-1-k]'(by omega)))] H fun r H'=>r=.av .bool (.b true)∧G (k+1) H') :
  ∀H,G 0 H→q7 Tryz.prog 157 [.av .func (.yl y),.av .ptr (.ptr c SeS [])] ((c,seO l)::H)
   fun r H'=>r=.tup []∧∃H1,G l.length H1∧H'=(c,seO l)::H1:=by
 intro H hG
 have hbe:=zzz l
 have hsl:∀x:List (Txt × Txt),(sts x).length=x.length:=fun x=>by simp[sts]
 refine zov Tryz.func157 cf0 fun imm0 w0=>?_
 simp (disch:=omega) [zz,seO,hsl]
 refine AT.loop' (α:=Nat × q8) (fun p=>St.of [(0,.av .func (.yl y)),(1,.av .ptr (.ptr c SeS [])),(3,.av (.int .i64) (.i .i64 ((l.length:Int)-1-p.1)))] [] (fun _=>0) ((c,seO l)::p.2))
  (fun p=>p.1≤l.length∧G p.1 p.2) (fun p=>l.length-p.1) (0,H) ?_ ?_ ?_
 ·apply Le.of<;>simp[qU,qG,seO]<;>try omega
 ·exact⟨by omega,hG⟩
 rintro⟨k,H1⟩ ⟨hk,hG1⟩ KL hN hE
 simp only at hk hG1 hN
 refine qM (cf:=cf0) laid mixed _ _ _ (by kernel_rfl) ?_
 by_cases hlt:k<l.length
 ·obtain⟨i,hi⟩:∃i:Nat,i=l.length-1-k:=⟨_,rfl⟩
  have hii:(l.length:Int)-1-k=i:=by omega
  have hil:i<l.length:=by omega
  have hgi:(sts l)[i]?=some (Z7 l[i]):=by simp[sts,List.getElem?_eq_getElem hil]
  rw[hii]
  have hge:(0:Int)≤i:=by omega
  simp (disch:=omega) [zz,hge,seO,hgi,hsl,hil]
  refine JY (R:=fun r H'=>r=.av .bool (.b true)∧G (k+1) H') H1 [(c,seO l)] (List.perm_append_comm (l₁:=[_])) (by simp[qQ]) ?_ ?_
  ·rw[hGe _ _ hG1]
   have:=hY k hlt _ hG1
   simpa[TV.er,←hi]using this
  rintro r H2 ⟨rfl,hG2⟩ _
  refine⟨(c,seO l)::H2,HSub.of_perm (List.perm_append_comm (l₂:=[_])),?_⟩
  simp (disch:=omega) [zz]
  refine hN _ (k+1,H2) ?_ ⟨by omega,hG2⟩ (by simp only;omega)
  apply Le.of<;>simp[qU,qG,seO]<;>try omega
 ·have hge:(l.length:Int)-1-k=-1:=by omega
  rw[hge]
  simp (disch:=omega) [zz]
  refine hE _ _ (by simp) ?_
  have hkl:k=l.length:=by omega
  subst hkl
  have hH:=hGe _ _ hG1
  simp (disch:=omega) [zz,Tryz.f157,hH,hbe]
  exact⟨hG1,by first|rfl|simp[seO]⟩
def zzg (l:List (Txt × Txt)) (k:Nat):List (Txt × Txt):=zyG (l.drop (l.length-k))
theorem zzu (l:List (Txt × Txt)) (k:Nat) (h:k<l.length):zzg l (k+1)=zyY (l[l.length-1-k]'(by omega)).1 (l[l.length-1-k]'(by omega)).2 (zzg l k):=by
 have e:l.length-(k+1)=l.length-1-k:=by omega
 have e2:l.length-k=(l.length-1-k)+1:=by omega
 unfold zzg
 rw[e,e2,List.drop_eq_getElem_cons (by omega)]
 rfl
theorem zzF (l:List (Txt × Txt)):zzg l l.length=zyG l:=by simp[zzg]
def tkE (d:Nat):Nat→Tok
 | 0=>.full
 | k+1=>.own d (k+1)
theorem zzn (m:List (Txt × Txt)) (l:List Txt) (k:Nat) (h:k<l.length):strs (zyD m (l.take (k+1)))=strs (zyD m (l.take k))++[.s l[k],.s (zzl m l[k])]:=by
 rw[List.take_succ_eq_append_getElem h];simp only[zyD,strs,List.flatMap_append,List.map_append,List.flatMap_cons,List.flatMap_nil,List.append_nil,List.map_cons,List.map_nil]
theorem zyS (m:List (Txt × Txt)):∀l:List Txt,(zyD m l).length=2*l.length
 | []=>rfl
 | x::l=>by have:=zyS m l;simp only[zyD,List.flatMap_cons,List.length_append,List.length_cons,List.length_nil]at this ⊢;omega
abbrev zzy:Cfg:=⟨fun n=>n==3,fun _=>false⟩
set_option maxHeartbeats 16000000 in
theorem zAu (l:List (Txt × Txt)) (hl:l.length≤1000000):PC Tryz.prog 79 [.av SeS (zS l)] (.av TxS (.sl .no (strs (zyK l)))):=by
 unfold PC
 have hse2:AV.ers (l.map Z7)=l.map Z7:=zzd l
 have hse:(zS l).er=zS l:=v8 l
 refine q7.sub (R:=fun r H'=>r=.av TxS (.sl .no (strs (zyK l)))) ?_ (fun r H' hr _=>⟨[],HSub.of_sub (List.nil_sublist _),hr,rfl⟩)
 refine zov Tryz.func79 zzy fun imm0 w0=>?_
 simp (disch:=omega) [zz]
 intro M b3 m1
 have m1':¬M=b3:=fun e=>m1 e.symm
 refine qE (R:=fun r' H'=>∃c,r'=.av .func (.fn 157 [.ptr c SeS []])∧H'=[(c,seO l)]) [] [(b3,wbO M),(M,wrO [])] (List.Perm.refl _) rfl (by simp[qQ]) (by simp) ?_ ?_
 ·have:=zze l
  simpa[TV.er,AV.er,hse2,zS,sts]using this
 rintro r' H' ⟨c,rfl,rfl⟩ hnd2
 have hc1:(¬c=b3∧¬c=M)∧¬b3=M:=by simpa using hnd2
 obtain⟨⟨hc1,hc2⟩,_⟩:=hc1
 refine⟨[(c,seO l),(b3,wbO M),(M,wrO [])],HSub.refl _,?_⟩
 simp (disch:=omega) [zz]
 refine AT.absE (fun E=>E 3=.av .ptr (.ptr b3 WrT [])∧E 11=.av .func (.fn 157 [.ptr c SeS []])) (by simp) ?_
 rintro E ⟨hE3,hE11⟩
 refine AT.range (gf:=157) rfl (by simpa using hE11) rfl (by simp) ?_
 intro y D rr i0 w1 hy hrec hready hpend hpar has hbo
 simp at hy
 obtain⟨y1,y2,y3⟩:=hy
 have y2':¬b3=y:=fun e=>y2 e.symm
 have y3':¬M=y:=fun e=>y3 e.symm
 obtain⟨G,hG⟩:∃G:Nat→q8→Prop,G=fun k H=>H=[(y,.lrec rr i0 w1),(b3,wbO M),(M,wrO (zzg l k))]:=⟨_,rfl⟩
 have hwe:=fun l=>QZ l
 have hbe:(wbO M).er=wbO M:=rfl
 have hce:=zzz l
 have hmm:∀l:List (Txt × Txt),List.map (fun p=>(p.1.er,p.2.er)) (wrE l)=wrE l:=by simp[wrE,AV.er,Function.comp_def]
 refine⟨(c,seO l)::[(y,.lrec rr i0 w1),(b3,wbO M),(M,wrO [])],[],fun t H'=>t=.tup []∧∃H1,G l.length H1∧H'=(c,seO l)::H1,?_,?_,?_⟩
 ·rw[List.append_nil]
  exact List.Perm.swap _ _ _
 ·have he:q8.er ((c,seO l)::[(y,.lrec rr i0 w1),(b3,wbO M),(M,wrO [])])=(c,seO l)::[(y,.lrec rr i0 w1),(b3,wbO M),(M,wrO [])]:=by
   simp only[q8.er_cons,q8.er_nil,hwe,hbe,hce];rfl
  rw[he]
  refine zzv (G:=G) y c l (by omega) ?_ ?_ _ ?_
  ·rw[hG]
   rintro k H rfl
   simp only[q8.er_cons,q8.er_nil,hwe,hbe];rfl
  ·rw[hG]
   rintro k hk H rfl
   obtain⟨x,hx⟩:∃x,x=l[l.length-1-k]'(by omega):=⟨_,rfl⟩
   have hnx:=zzu l k hk
   rw[←hx]at hnx ⊢
   refine zeS (R:=fun rrr H'=>rrr=.av .bool (.b true)∧Ab.HSub [(y,.lrec rr i0 w1),(b3,wbO M),(M,wrO (zzg l (k+1)))] H') ?_ (fun rrr H' ⟨e1,e7⟩ _=>⟨_,e7,e1,rfl⟩)
   refine YC.of_round (l:=y) hrec hready (by rw[hpar];rfl) (by rw[hpar];simp) (fun imm wd=>?_)
   rw[has,hbo,hpar]
   have hrl:∀(pp:Array Nat) (a b:Code),pp=rr.params→a=rr.assign→b=rr.body→({ state:=.ready,pending:=none,fn:=rr.fn,tmps:=rr.tmps,params:=pp,assign:=a,body:=b,defers:=rr.defers }:Loop)=rr:=by
    rintro _ _ _ rfl rfl rfl;exact u7 hready hpend
   have her:∀r',(HObj.lrec r' i0 w1).er=HObj.lrec r' i0 w1:=fun _=>rfl
   refine qM (cf:=zzy) laid mixed _ _ _ (by kernel_rfl) ?_
   simp (disch:=omega) [zz,QW,yL,vS,Z7]
   refine qM (cf:=zzy) laid mixed _ _ _ (by kernel_rfl) ?_
   simp (disch:=omega) [zz,hE3,y2,y2',y3,y3',m1,m1',wbO,wrO,zz7,WR,uV]
   rw[her,hrl _ _ _ hpar.symm has.symm hbo.symm,hnx,hmm]
   exact HSub.refl _
  ·rw[hG]
   show _=_
   simp[zzg,zyG]
 ·rintro t H' ⟨rfl,H1,hG1,rfl⟩ hnd3
  rw[hG]at hG1
  subst hG1
  refine⟨rr,[(b3,wbO M),(M,wrO (zyG l)),(c,seO l)],HSub.of_perm (by rw[List.append_nil,zzF];exact List.perm_append_comm (l₁:=[_]) (l₂:=[_,_,_])),by rw[hready];simp,?_⟩
  rw[hpend]
  simp (disch:=omega) [zz,PR,hE3,wbO]
  refine qE (R:=fun r H'=>∃c2,r=.av .func (.fn 78 [.ptr c2 WrT []])∧H'=[(c2,wbO M)]) [] [(b3,wbO M),(M,wrO (zyG l)),(c,seO l)] (List.Perm.refl _) rfl (by simp[qQ]) (by simp) ?_ ?_
  ·simpa[TV.er,AV.er]using zk4 M
  rintro r' H' ⟨c2,rfl,rfl⟩ hnd4
  have n2:¬c2=M:=fun e=>by simp[e]at hnd4
  obtain⟨m,hm⟩:∃m,m=zyG l:=⟨_,rfl⟩
  have hml:m.length≤1000000:=by rw[hm];exact Nat.le_trans (zz0 l) hl
  have hek:zyK l=zyD m (kK (m.map (·.1))):=by rw[hm];rfl
  rw[←hm]
  refine⟨[(c2,wbO M),(b3,wbO M),(M,wrO m),(c,seO l)],HSub.refl _,?_⟩
  simp (disch:=omega) [zz]
  refine qE (R:=wS (m.map (·.1)) [(M,wrO m),(c2,wbO M)]) [(M,wrO m),(c2,wbO M)] [(b3,wbO M),(c,seO l)] (List.perm_iff_count.2 fun a=>by simp only[List.count_append,List.count_cons,List.count_nil];omega) rfl (by simp[qQ]) (by simp) ?_ ?_
  ·have:=ze9 (zz8 c2 M n2 m) (by simpa using hml)
   simpa[TV.er,AV.er,AV.ers,q8.er_cons,q8.er_nil,hwe,hbe]using this
  rintro r' H' ⟨v,HR,rfl,hrow,rfl⟩ hnd5
  obtain⟨ks,hks⟩:∃ks,ks=kK (m.map (·.1)):=⟨_,rfl⟩
  rw[←hks]at hrow hek
  have hkl:ks.length≤1000000:=by rw[hks,ZO];simpa using hml
  refine⟨HR++[(b3,wbO M),(M,wrO m),(c2,wbO M),(c,seO l)],HSub.of_perm (List.perm_iff_count.2 fun a=>by simp only[List.count_append,List.count_cons,List.count_nil];omega),?_⟩
  rcases hrow with⟨hk0,rfl,rfl⟩|⟨b,cap,j,hj,rfl,hcap,rfl⟩
  ·simp (disch:=omega) [zz]
   have h0:zyK l=[]:=by rw[hek,hk0];rfl
   refine AT.loop' (α:=Unit) (fun _=>St.of [(6,.cst (.slice none 0 0)),(22,.av (.int .i64) (.i .i64 0)),(23,.av (.int .i64) (.i .i64 0))] [] (fun _=>0) [] [D]) (fun _=>True) (fun _=>0) () ?_ trivial ?_
   ·apply Le.of<;>simp[qU,qG,zX]<;>try omega
   rintro _ _ KL hN hE
   refine qM (cf:=zzy) laid mixed _ _ _ (by kernel_rfl) ?_
   simp (disch:=omega) [zz]
   refine hE _ _ (by simp) ?_
   simp (disch:=omega) [zz,h0,strs,Tryz.f79]
  ·simp (disch:=omega) [zz]
   refine AT.loop' (α:=Nat) (fun k=>St.of [(3,.av .ptr (.ptr b3 WrT [])),(6,.av TxS (.sl (tkE 33 k) (strs (zyD m (ks.take k))))),(21,.av TxS (.msl b 9 0 ks.length cap)),(22,.av (.int .i64) (.i .i64 ks.length)),(23,.av (.int .i64) (.i .i64 k))] [] (fun j=>if j=33 then k else 0) [(b,wY cap ks j),(b3,wbO M),(M,wrO m)] [D])
    (fun k=>k≤ks.length) (fun k=>ks.length-k) 0 ?_ ?_ ?_
   ·apply Le.of<;>simp[qU,qG,zX,tkE,zyD,strs,wY,hE3]<;>try omega
   ·omega
   rintro k hk KL hN hE
   refine qM (cf:=zzy) laid mixed _ _ _ (by kernel_rfl) ?_
   by_cases hlt:k<ks.length
   ·have hlt':(k:Int)<ks.length:=by omega
    have hg:=YT ks j k hlt
    have hst:=zzn m ks k hlt
    have hpl:=zyS m (ks.take k)
    have htl:(ks.take k).length=k:=by rw[List.length_take];omega
    rw[htl]at hpl
    have hfd:=VO ks[k] m
    have hme:ks[k]∈m.map (·.1):=by rw[←(W0 (m.map (·.1))).mem_iff,←hks];exact List.getElem_mem hlt
    obtain⟨z,hz⟩:=zcf hme
    have hvz:zzl m ks[k]=z.2:=by unfold zzl;rw[hz];rfl
    rw[hz]at hfd
    rw[hvz]at hst
    simp only[Option.map_some]at hfd
    obtain⟨x,hx⟩:∃x,x=ks[k]:=⟨_,rfl⟩
    rw[←hx]at hg hst hfd
    have nb:¬b=b3:=fun e=>by simp[e]at hnd5
    have nb2:¬b=M:=fun e=>by simp[e]at hnd5
    have nb':¬b3=b:=fun e=>nb e.symm
    have nb2':¬M=b:=fun e=>nb2 e.symm
    cases k with
    | zero =>
     have hp0:zyD m []=[]:=rfl
     have hst1:strs (zyD m (ks.take 1))=[.s x,.s z.2]:=hst
     have hs0:strs []=[]:=rfl
     simp (disch:=omega) [zz,hlt,hg,wY,wbO,wrO,nb,nb',nb2,nb2',m1,m1',hfd,tkE,qX,hp0]
     simp (disch:=omega) [zz,wB,hp0]
     (repeat with_reducible refine om ?_)
     refine hN _ 1 ?_ (by omega) (by omega)
     apply Le.of<;>simp[qU,qG,tkE,hst1,wY,wbO,wrO,hs0,hp0]<;>try omega
    | succ k =>
     have hlI:(k:Int)+1<ks.length:=by omega
     simp (disch:=omega) [zz,hlI,hlt,hg,wY,wbO,wrO,nb,nb',nb2,nb2',m1,m1',hfd,tkE,qX,hpl]
     simp (disch:=omega) [zz,wB,hpl]
     (repeat with_reducible refine om ?_)
     refine hN _ (k+2) ?_ (by omega) (by omega)
     apply Le.of<;>simp[qU,qG,tkE,hst,wY,wbO,wrO]<;>try omega
     all_goals (intro j;by_cases hj:j=33<;>simp[hj])
   have hlt':¬(k:Int)<ks.length:=by omega
   simp (disch:=omega) [zz,hlt']
   refine hE _ _ (by simp) ?_
   rw[List.take_of_length_le (by omega)]
   simp (disch:=omega) [zz,hek,zyQ,Tryz.f79]
theorem zDl {N:Nat} (hN:N≤1000000000000000):∀l:List Txt,(∀x∈l,x.length≤N)→(WI l).length≤(N+22)*l.length
 | [],_=>by simp[WI]
 | x::l,h=>by
  have ih:=zDl hN l fun y hy=>h y (by simp[hy])
  have hx:=h x (by simp)
  have hi:(Lib.itoa (x.length:Int)).length≤21:=Lib.itoa_length_le _ (by omega) (by omega)
  simp only[WI,List.length_append,List.length_cons,Nat.mul_add,Nat.mul_one]
  omega
theorem zyN (l:List Txt):(zyE l).length≤l.length:=by
 have:=zaW (kK l)
 rw[ZO]at this;exact this
theorem zzj (l:List (Txt × Txt)):(zyK l).length≤2*l.length:=by
 have:=zz0 l
 rw[zyK,zyS,ZO,List.length_map];omega
theorem zzD {l:List (Txt × Txt)} {x:Txt} (h:x∈zyK l):∃s∈l,x=s.1∨x=s.2:=by
 obtain⟨n,hn,hx⟩:=List.mem_flatMap.1 h
 have hn:=(W0 _).mem_iff.1 hn
 rw[zz9,zyF]at hn
 obtain⟨s,hs⟩:=Option.isSome_iff_exists.1 hn
 refine⟨s,List.mem_of_find?_eq_some hs,?_⟩
 have h1:s.1=n:=by simpa using List.find?_some hs
 have h2:zzl (zyG l) n=s.2:=by unfold zzl;rw[zyF,hs];rfl
 simp only[h2,List.mem_cons,List.not_mem_nil,or_false]at hx
 rcases hx with rfl|rfl
 ·exact .inl h1.symm
 ·exact .inr rfl
theorem zzC {a:xW} (ha:vA a≤2000):(WI (zyK a.env)).length≤10000000∧(WI (zyE a.ins)).length≤10000000∧(WI (zyE a.asks)).length≤10000000∧(WI (zyE a.outs)).length≤10000000:=by
 have hb:=zbN ha
 unfold vA at ha
 have e1:=pU a.env
 have e2:=WB a.ins
 have e3:=WB a.asks
 have e4:=WB a.outs
 have st:∀l:List Txt,txW l≤2000→(WI (zyE l)).length≤10000000:=fun l hl=>by
  have h1:=zDl (N:=2000) (by decide) (zyE l) fun x hx=>by
   have:=zll ((zyX x l).1 hx);omega
  have h2:=zyN l
  have h3:=WB l
  have h4:(2000+22)*(zyE l).length≤(2000+22)*2000:=Nat.mul_le_mul_left _ (by omega)
  omega
 refine⟨?_,st _ (by omega),st _ (by omega),st _ (by omega)⟩
 have h1:=zDl (N:=2000) (by decide) (zyK a.env) fun x hx=>by
  obtain⟨s,hs,hx⟩:=zzD hx
  have:=zmB hs
  rcases hx with rfl|rfl<;>omega
 have h2:=zzj a.env
 have h4:(2000+22)*(zyK a.env).length≤(2000+22)*4000:=Nat.mul_le_mul_left _ (by omega)
 omega
abbrev zAz:Cfg:=⟨fun _=>false,fun _=>false⟩
set_option maxHeartbeats 16000000 in
theorem zzq (a:xW) (ha:vA a≤2000):PC Tryz.prog 44 [.av UI (kT a)] (.av .str (.s (zz5 a))):=by
 have hb:=zbN ha
 obtain⟨l1,l2,l3,l4⟩:=zzC ha
 have he:=zAu a.env hb.be
 have hi:=zzm a.ins hb.bi
 have hk:=zzm a.asks hb.ba
 have ho:=zzm a.outs hb.bo
 have hkv:zz5 a=WI [a.tool,WI (zyK a.env),WI (zyE a.ins),WI (zyE a.asks),WI (zyE a.outs)]:=rfl
 obtain⟨E,hE⟩:∃E,E=zyK a.env:=⟨_,rfl⟩
 obtain⟨I,hI⟩:∃E,E=zyE a.ins:=⟨_,rfl⟩
 obtain⟨K0,hK⟩:∃E,E=zyE a.asks:=⟨_,rfl⟩
 obtain⟨O,hO⟩:∃E,E=zyE a.outs:=⟨_,rfl⟩
 rw[←hE]at he hkv l1
 rw[←hI]at hi hkv l2
 rw[←hK]at hk hkv l3
 rw[←hO]at ho hkv l4
 refine zow Tryz.func44 zAz fun imm0 w0=>?_
 simp (disch:=omega) [zz,kT]
 (repeat with_reducible refine om ?_)
 have e1:=v8 a.env
 have e2:=fun l=>zyQ l
 refine jC he rfl rfl (by simp) (by simp[qS,coC,TV.er,AV.er,e1]) ?_
 simp (disch:=omega) [zz]
 (repeat with_reducible refine om ?_)
 refine jC hi rfl rfl (by simp) (by simp[qS,coC,TV.er,AV.er,e2]) ?_
 simp (disch:=omega) [zz]
 (repeat with_reducible refine om ?_)
 refine jC hk rfl rfl (by simp) (by simp[qS,coC,TV.er,AV.er,e2]) ?_
 simp (disch:=omega) [zz]
 (repeat with_reducible refine om ?_)
 refine jC ho rfl rfl (by simp) (by simp[qS,coC,TV.er,AV.er,e2]) ?_
 simp (disch:=omega) [zz]
 (repeat with_reducible refine om ?_)
 obtain⟨rows,hrows⟩:∃r:List (List Txt),r=[E,I,K0,O]:=⟨_,rfl⟩
 have hrm:[AV.sl Tok.no (strs E),.sl .no (strs I),.sl .no (strs K0),.sl .no (strs O)]=rows.map UY:=by rw[hrows];rfl
 have hrl:rows.length=4:=by rw[hrows];rfl
 obtain⟨Rt,hRt⟩:∃r:List Txt,r=rows.map WI:=⟨_,rfl⟩
 have hRl:Rt.length=4:=by rw[hRt,List.length_map,hrl]
 have hkw:zz5 a=WI (a.tool::Rt):=by rw[hkv,hRt,hrows];rfl
 have hrb:∀x∈rows,(WI x).length≤10000000∧x.length≤1000000000:=by
  have q1:E.length≤1000000000:=by have:=zzj a.env;have:=hb.be;rw[hE];omega
  have q2:I.length≤1000000000:=by have:=zyN a.ins;have:=hb.bi;rw[hI];omega
  have q3:K0.length≤1000000000:=by have:=zyN a.asks;have:=hb.ba;rw[hK];omega
  have q4:O.length≤1000000000:=by have:=zyN a.outs;have:=hb.bo;rw[hO];omega
  rw[hrows]
  simp only[List.mem_cons,List.not_mem_nil,or_false]
  rintro x (rfl|rfl|rfl|rfl)
  ·exact⟨l1,q1⟩
  ·exact⟨l2,q2⟩
  ·exact⟨l3,q3⟩
  ·exact⟨l4,q4⟩
 clear hE hI hK hO he hi hk ho l1 l2 l3 l4 hkv
 rw[hrm]
 clear hrm hrows
 refine AT.loop' (α:=Nat) (fun k=>St.of [(4,.av TxS (.sl (tkE 33 k) (strs (a.tool::Rt.take k)))),(23,.av (.slice 25) (.sl .full (rows.map UY))),(24,.av (.int .i64) (.i .i64 4)),(25,.av (.int .i64) (.i .i64 k))] [] (fun j=>if j=33 then k else 0) [])
  (fun k=>k≤4) (fun k=>4-k) 0 ?_ ?_ ?_
 ·apply Le.of<;>simp[qU,qG,zX,tkE,strs]<;>try omega
 ·omega
 rintro k hk4 KL hN hE
 refine qM (cf:=zAz) laid mixed _ _ _ (by kernel_rfl) ?_
 by_cases hlt:k<4
 ·have hlt':(k:Int)<4:=by omega
  have hg:=zm7 rows k (by omega)
  obtain⟨x,hx⟩:∃x,x=rows[k]'(by omega):=⟨_,rfl⟩
  have hxb:=hrb x (by rw[hx];exact List.getElem_mem _)
  have hRk:Rt[k]'(by omega)=WI x:=by simp only[hRt,List.getElem_map,hx]
  have hst:strs (a.tool::Rt.take (k+1))=strs (a.tool::Rt.take k)++[AV.s (WI x)]:=by
   rw[List.take_succ_eq_append_getElem (by omega),hRk];simp only[strs,List.map_append,List.map_cons,List.map_nil,List.cons_append]
  rw[←hx]at hg
  have hrow:PC Tryz.prog 50 [.av (.slice 9) (.sl .no (strs x))] (.av .str (.s (WI x))):=zzx x (by omega) (by omega)
  have htl:(strs (a.tool::Rt.take k)).length=k+1:=by rw[qX,List.length_cons,List.length_take];omega
  simp (disch:=omega) [zz,hlt',hg,hrl,UY]
  refine qL hrow rfl rfl (by simp) (by simp[qS,TV.er,AV.er,e2]) ?_
  cases k with
  | zero =>
   simp (disch:=omega) [zz,tkE]
   simp (disch:=omega) [zz,wB,htl]
   (repeat with_reducible refine om ?_)
   have hst1:strs (a.tool::Rt.take 1)=strs [a.tool]++[AV.s (WI x)]:=hst
   refine hN _ 1 ?_ (by omega) (by omega)
   apply Le.of<;>simp[qU,qG,tkE,hst1]<;>try omega
  | succ k =>
   simp (disch:=omega) [zz,tkE]
   simp (disch:=omega) [zz,wB,htl]
   (repeat with_reducible refine om ?_)
   refine hN _ (k+2) ?_ (by omega) (by omega)
   apply Le.of<;>simp[qU,qG,tkE,hst]<;>try omega
   all_goals (intro j;by_cases hj:j=33<;>simp[hj])
 ·have hkn:k=4:=by omega
  subst hkn
  have htk:Rt.take 4=Rt:=List.take_of_length_le (by omega)
  have hrow:PC Tryz.prog 50 [.av (.slice 9) (.sl .no (strs (a.tool::Rt)))] (.av .str (.s (zz5 a))):=by
   rw[hkw]
   refine zzx (a.tool::Rt) (by simp[hRl]) ?_
   have:=zDl (N:=10000000) (by decide) (a.tool::Rt) fun x hx=>by
    rcases List.mem_cons.1 hx with rfl|hx
    ·have:=hb.bt;omega
    ·rw[hRt]at hx
     obtain⟨y,hy,rfl⟩:=List.mem_map.1 hx
     exact(hrb y hy).1
   simp only[List.length_cons,hRl]at this
   omega
  simp (disch:=omega) [zz,htk]
  refine hE _ _ (by simp) ?_
  simp (disch:=omega) [zz,htk]
  refine qL hrow rfl rfl (by simp) (by simp[qS,TV.er,AV.er,e2]) ?_
  simp (disch:=omega) [zz,Tryz.f44]
end Go.Proofs.YtcgpcfcbienapaaGreatDoor
end
