/- A row's text tells its texts. No condition beyond each theorem's own. -/
import Derived.Test.YtidhkfcjichiiaaGreatDoorP18ToK4b
import Derived.Test.YtidhkfcjichiiaaGreatDoorBE1aToFK0
import Derived.Test.YtidhkfcjichiiaaGreatDoorBE0
import Derived.Test.YtidhkfcjichiiaaGreatDoorBR0ToKK1
import Derived.Test.YtidhkfcjichiiaaGreatDoorGB4ToKT3
set_option linter.unusedSimpArgs false
set_option linter.unusedVariables false
set_option linter.unusedSectionVars false
section
set_option maxRecDepth 100000
namespace Go.Proofs.YtidhkfcjichiiaaGreatDoor
open Go Go.Ab
open Classical
variable [Sel] [SelPow]
theorem zyL (u:Nat):∀b∈Lib.decDigits u,b≠58:=by
 induction u using Nat.strongRecOn with
 | ind u ih =>
  rw[Lib.decDigits]
  have key:∀d:Nat,d<10→UInt8.ofNat (48+d)≠58:=fun d hd e=>by
   have:=congrArg UInt8.toNat e
   simp at this
   omega
  split
  ·rename_i h
   intro b hb
   rw[List.mem_singleton]at hb
   subst hb
   exact key u h
  ·rename_i h
   intro b hb
   rcases List.mem_append.1 hb with hb|hb
   ·exact ih (u / 10) (by omega) b hb
   ·rw[List.mem_singleton]at hb
    subst hb
    exact key (u % 10) (by omega)
def zAw (l:List UInt8):Nat:=l.foldl (fun a b=>a*10+(b.toNat-48)) 0
theorem zyH (u:Nat):zAw (Lib.decDigits u)=u:=by
 induction u using Nat.strongRecOn with
 | ind u ih =>
  have key:∀d:Nat,d<10→(UInt8.ofNat (48+d)).toNat-48=d:=fun d hd=>by simp;omega
  rw[Lib.decDigits]
  split
  ·rename_i h
   simp only[zAw,List.foldl_cons,List.foldl_nil,key u h]
   omega
  ·rename_i h
   have:=ih (u / 10) (by omega)
   unfold zAw at this ⊢
   rw[List.foldl_append,this]
   simp only[List.foldl_cons,List.foldl_nil,key (u % 10) (by omega)]
   omega
theorem zyP (n:Nat):Lib.itoa (n:Int)=Lib.decDigits n:=by
 unfold Lib.itoa
 rw[if_neg (by omega)]
 simp
theorem zzJ {m n:Nat} (h:Lib.itoa (m:Int)=Lib.itoa (n:Int)):m=n:=by
 rw[zyP,zyP]at h
 rw[←zyH m,h,zyH]
theorem zzp:∀ {a b x y:List UInt8},(∀c∈a,c≠58)→(∀c∈b,c≠58)→a++58::x=b++58::y→a=b∧x=y
 | [],[],x,y,_,_,h=>by
  simp only[List.nil_append,List.cons.injEq,true_and]at h
  exact⟨rfl,h⟩
 | [],c::b,x,y,_,hb,h=>by
  simp only[List.nil_append,List.cons_append,List.cons.injEq]at h
  exact(hb c (by simp) h.1.symm).elim
 | c::a,[],x,y,ha,_,h=>by
  simp only[List.nil_append,List.cons_append,List.cons.injEq]at h
  exact(ha c (by simp) h.1).elim
 | c::a,d::b,x,y,ha,hb,h=>by
  simp only[List.cons_append,List.cons.injEq]at h
  obtain⟨e1,e2⟩:=zzp (fun z hz=>ha z (by simp[hz])) (fun z hz=>hb z (by simp[hz])) h.2
  exact⟨by rw[h.1,e1],e2⟩
theorem zyI (s:List UInt8) (l:List (List UInt8)):WI (s::l)=Lib.itoa s.length++58::(s++WI l):=by
 simp[WI]
theorem zyM:∀ {a b:List (List UInt8)},WI a=WI b→a=b
 | [],[],_=>rfl
 | [],s::l,h=>by
  rw[zyI]at h
  have:=congrArg List.length h
  simp[WI]at this
 | s::l,[],h=>by
  rw[zyI]at h
  have:=congrArg List.length h
  simp[WI]at this
 | s::l,s'::l',h=>by
  rw[zyI,zyI]at h
  obtain⟨e1,e2⟩:=zzp (by rw[zyP];exact zyL _) (by rw[zyP];exact zyL _) h
  have e3:=zzJ e1
  obtain⟨e4,e5⟩:=List.append_inj e2 e3
  rw[e4,zyM e5]
end Go.Proofs.YtidhkfcjichiiaaGreatDoor
end
section
set_option maxRecDepth 100000
namespace Go.Proofs.YtidhkfcjichiiaaGreatDoor
open Go Go.Ab
open Classical
variable [Sel] [SelPow] [SelMax]
def zyY (p d:Txt):List (Txt × Txt)→List (Txt × Txt)
 | []=>[(p,d)]
 | x::r=>if x.1=p then(p,d)::r else x::zyY p d r
theorem zz7 (p d:Txt):∀l:List (Txt × Txt),xX (.s p) (.s d) (wrE l)=wrE (zyY p d l)
 | []=>rfl
 | x::l=>by
  have ih:=zz7 p d l
  simp only[wrE,List.map_cons,xX,zyY,AV.s.injEq]at ih ⊢
  by_cases h:x.1=p
  ·simp[h]
  ·simp only[h,if_false,List.map_cons,ih]
def zyG:List (Txt × Txt)→List (Txt × Txt)
 | []=>[]
 | x::l=>zyY x.1 x.2 (zyG l)
theorem zza (p d q:Txt):∀l:List (Txt × Txt),((zyY p d l).find? fun x=>decide (x.1=q))=if p=q then some (p,d) else l.find? fun x=>decide (x.1=q)
 | []=>by
  by_cases h:p=q<;>simp[zyY,h]
 | x::l=>by
  have ih:=zza p d q l
  rw[zyY]
  by_cases h:x.1=p
  ·rw[if_pos h]
   by_cases hq:p=q
   ·simp[hq]
   ·have:¬x.1=q:=fun e=>hq (h.symm.trans e)
    simp[hq,this]
  ·rw[if_neg h,List.find?_cons,List.find?_cons,ih]
   by_cases hq:p=q
   ·have:¬x.1=q:=fun e=>h (e.trans hq.symm)
    simp[hq,this]
   ·simp[hq]
theorem zyF (q:Txt):∀l:List (Txt × Txt),((zyG l).find? fun x=>decide (x.1=q))=l.find? fun x=>decide (x.1=q)
 | []=>rfl
 | x::l=>by
  rw[zyG,zza,zyF q l,List.find?_cons]
  by_cases h:x.1=q
  ·rw[if_pos h];simp only[h,decide_true];rw[←h]
  ·rw[if_neg h];simp only[h,decide_false]
theorem zzi (p d:Txt):∀l:List (Txt × Txt),(zyY p d l).length≤l.length+1
 | []=>by simp[zyY]
 | x::l=>by
  have:=zzi p d l
  rw[zyY];split<;>simp<;>omega
theorem zz0:∀l:List (Txt × Txt),(zyG l).length≤l.length
 | []=>by simp[zyG]
 | x::l=>by have:=zzi x.1 x.2 (zyG l);have:=zz0 l;rw[zyG];simp;omega
def zzl (m:List (Txt × Txt)) (n:Txt):Txt:=((m.find? fun x=>decide (x.1=n)).getD ([],[])).2
def zyD (m:List (Txt × Txt)) (l:List Txt):List Txt:=l.flatMap fun n=>[n,zzl m n]
noncomputable def zyK (l:List (Txt × Txt)):List Txt:=zyD (zyG l) (kK ((zyG l).map (·.1)))
noncomputable def zyE (l:List Txt):List Txt:=kF (kK l)
noncomputable def zz5 (a:xW):Txt:=WI [a.tool,WI (zyK a.env),WI (zyE a.ins),WI (zyE a.asks),WI (zyE a.outs)]
theorem zzc (x:Txt):∀l:List Txt,x∈kF l↔x∈l
 | []=>by simp[kF]
 | [y]=>by simp[kF]
 | y::z::r=>by
  have ih:=zzc x (z::r)
  rw[kF]
  by_cases h:y=z
  ·rw[if_pos h,ih,h];simp
  ·rw[if_neg h,List.mem_cons,ih,List.mem_cons (b:=y)]
theorem zyX (x:Txt) (l:List Txt):x∈zyE l↔x∈l:=by
 rw[zyE,zzc];exact(List.mergeSort_perm _ _).mem_iff
theorem zzb {f g:Txt→Txt}:∀ {a b:List Txt},(a.flatMap fun n=>[n,f n])=(b.flatMap fun n=>[n,g n])→a=b∧∀n∈a,f n=g n
 | [],[],_=>⟨rfl,by simp⟩
 | [],y::b,h=>by simp at h
 | x::a,[],h=>by simp at h
 | x::a,y::b,h=>by
  simp only[List.flatMap_cons,List.cons_append,List.nil_append,List.cons.injEq]at h
  obtain⟨rfl,h2,h3⟩:=h
  obtain⟨rfl,h5⟩:=zzb h3
  refine⟨rfl,fun n hn=>?_⟩
  rcases List.mem_cons.1 hn with rfl|hn
  ·exact h2
  ·exact h5 n hn
theorem zz9 {p:Txt} {l:List (Txt × Txt)}:p∈l.map (·.1)↔(l.find? fun x=>decide (x.1=p)).isSome:=by
 rw[List.find?_isSome]
 constructor
 ·intro h;obtain⟨x,h1,h2⟩:=List.mem_map.1 h;exact⟨x,h1,by simpa using h2⟩
 ·rintro⟨x,h1,h2⟩;exact List.mem_map.2 ⟨x,h1,by simpa using h2⟩
theorem zzA {l l':List (Txt × Txt)} (h:zyK l=zyK l'):zz1 l l':=by
 obtain⟨h1,h2⟩:=zzb h
 intro p
 have hm:∀l:List (Txt × Txt),p∈kK ((zyG l).map (·.1))↔(l.find? fun x=>decide (x.1=p)).isSome:=fun l=>by
  rw[←zyF,←zz9];exact(List.mergeSort_perm _ _).mem_iff
 have a1:=hm l
 have a2:=hm l'
 rw[h1]at a1
 by_cases hp:p∈kK ((zyG l').map (·.1))
 ·have b1:=a1.1 hp
  have b2:=a2.1 hp
  have h3:=h2 p (by rw[h1];exact hp)
  simp only[zzl,zyF]at h3
  obtain⟨x,hx⟩:=Option.isSome_iff_exists.1 b1
  obtain⟨y,hy⟩:=Option.isSome_iff_exists.1 b2
  rw[hx,hy]at h3 ⊢
  simpa using h3
 ·have b1:(l.find? fun x=>decide (x.1=p))=none:=by
   cases hf:l.find? fun x=>decide (x.1=p)with
   | none=>rfl
   | some x=>exact absurd (a1.2 (by rw[hf];rfl)) hp
  have b2:(l'.find? fun x=>decide (x.1=p))=none:=by
   cases hf:l'.find? fun x=>decide (x.1=p)with
   | none=>rfl
   | some x=>exact absurd (a2.2 (by rw[hf];rfl)) hp
  rw[b1,b2]
theorem zzB {a b:xW} (ha:zky a) (hb:zky b) (h:zz5 a=zz5 b) (fs:List U1):zuI b fs=zuI a fs:=by
 have h1:=zyM h
 simp only[List.cons.injEq,and_true]at h1
 obtain⟨h1,h2,h3,h4,h5⟩:=h1
 have s:∀ {x y:List Txt},WI (zyE x)=WI (zyE y)→∀p,p∈x↔p∈y:=fun e p=>by
  rw[←zyX,zyM e,zyX]
 exact zzG ha hb h1.symm (zzA (zyM h2)) (s h3) (s h4) (s h5) fs
@[simp] theorem zx5:qZ Tryz.prog 33=true:=by kernel_rfl
@[simp] theorem zxm:z8 Tryz.prog (.func 33)=false:=q9 zx5
@[simp] theorem zwR:qZ Tryz.prog 74=true:=by kernel_rfl
@[simp] theorem zxl:z8 Tryz.prog (.func 74)=false:=q9 zwR
@[simp] theorem zke:qZ Tryz.prog 131=true:=by kernel_rfl
@[simp] theorem zqO:z8 Tryz.prog (.func 131)=false:=q9 zke
@[simp] theorem zmq:qZ Tryz.prog 132=true:=by kernel_rfl
@[simp] theorem zqP:z8 Tryz.prog (.func 132)=false:=q9 zmq
@[simp] theorem zzU:qZ Tryz.prog 183=true:=by kernel_rfl
@[simp] theorem zAG:z8 Tryz.prog (.func 183)=false:=q9 zzU
@[simp] theorem zAa:qZ Tryz.prog 226=true:=by kernel_rfl
@[simp] theorem zBd:z8 Tryz.prog (.func 226)=false:=q9 zAa
@[simp] theorem zA7:qZ Tryz.prog 182=true:=by kernel_rfl
@[simp] theorem zB7:z8 Tryz.prog (.func 182)=false:=q9 zA7
@[simp] theorem zAi:qZ Tryz.prog 225=true:=by kernel_rfl
@[simp] theorem zBa:z8 Tryz.prog (.func 225)=false:=q9 zAi
abbrev zBj:Cfg:=⟨fun n=>n==1,fun _=>false⟩
noncomputable def vbO (l:List Txt):HObj:=.var TxS (.sl .no (strs l))
theorem zyQ (l:List Txt):AV.ers (strs l)=strs l:=by simp[strs,AV.ers_eq,Function.comp_def,AV.er]
theorem zzI (l:List Txt):(vbO l).er=vbO l:=by simp[vbO,HObj.er_var,AV.erk]
theorem zzt (l:List Txt):q7 Tryz.prog 183 [.av TxS (.sl .no (strs l))] [] fun r H'=>∃c,r=.av .func (.fn 226 [.ptr c TxS []])∧H'=[(c,vbO l)]:=by
 refine q7.of_vc laid mixed Tryz.func183 rfl zBj (by kernel_rfl) (by simp[Tryz.ntmps183]) fun imm0 w0=>?_
 (simp (maxSteps:=2000000) (disch:=first|omega|assumption) [zz,-List.reduceReplicate])
 intro c
 (simp (maxSteps:=2000000) (disch:=first|omega|assumption) [zz,-List.reduceReplicate,Tryz.f183,vbO,AV.ers,zyQ])
set_option maxHeartbeats 4000000 in
theorem zzk (c:Nat) (l:List Txt) (hl:l.length≤1000000000):zzE 226 c TxS [(c,vbO l)] l:=by
 have hbe:=zzI l
 refine⟨by simp,by simp only[q8.er_cons,q8.er_nil,hbe],fun G y hGe hY H hG=>?_⟩
 have hsl:=qX l
 refine q7.of_vc laid mixed Tryz.func226 rfl cf0 (by kernel_rfl) (by simp[Tryz.ntmps226]) fun imm0 w0=>?_
 (simp (maxSteps:=2000000) (disch:=first|omega|assumption) [zz,-List.reduceReplicate,vbO,hsl])
 refine AT.loop' (α:=Nat × q8) (fun p=>St.of [(0,.av .func (.yl y)),(1,.av .ptr (.ptr c TxS [])),(5,.av TxS (.sl .no (strs l))),(6,.av (.int .i64) (.i .i64 l.length)),(7,.av (.int .i64) (.i .i64 p.1))] [] (fun _=>0) ((c,vbO l)::p.2))
  (fun p=>p.1≤l.length∧G (l.take p.1) p.2) (fun p=>l.length-p.1) (0,H) ?_ ?_ ?_
 ·refine Le.of ?_ ?_ ?_ ?_ ?_<;>simp[qU,qG,vbO]<;>try omega
 ·exact⟨by omega,hG⟩
 rintro⟨k,H1⟩ ⟨hk,hG1⟩ KL hN hE
 simp only at hk hG1 hN
 refine qM (cf:=cf0) laid mixed _ _ _ (by kernel_rfl) ?_
 by_cases hlt:k<l.length
 ·have hlt':(k:Int)<l.length:=by omega
  have hg:=yH l k hlt
  (simp (maxSteps:=2000000) (disch:=first|omega|assumption) [zz,-List.reduceReplicate,hlt',hg,vbO,hsl])
  refine JY (R:=fun r H'=>r=.av .bool (.b true)∧G (l.take (k+1)) H') H1 [(c,vbO l)] (List.perm_append_comm (l₁:=[_])) (by simp[qQ]) ?_ ?_
  ·rw[hGe _ _ hG1,List.take_succ_eq_append_getElem hlt]
   have:=hY _ l[k] _ (by rw[List.length_take];omega) hG1
   simpa[TV.er,strs,AV.er]using this
  rintro r H2 ⟨rfl,hG2⟩ _
  refine⟨(c,vbO l)::H2,HSub.of_perm (List.perm_append_comm (l₂:=[_])),?_⟩
  (simp (maxSteps:=2000000) (disch:=first|omega|assumption) [zz,-List.reduceReplicate])
  refine hN _ (k+1,H2) ?_ ⟨by omega,hG2⟩ (by simp only;omega)
  refine Le.of ?_ ?_ ?_ ?_ ?_<;>simp[qU,qG,vbO]<;>try omega
 ·have hlt':¬(k:Int)<l.length:=by omega
  (simp (maxSteps:=2000000) (disch:=first|omega|assumption) [zz,-List.reduceReplicate,hlt',hsl])
  refine hE _ _ (by simp) ?_
  rw[List.take_of_length_le (by omega)]at hG1
  have hH:=hGe _ _ hG1
  (simp (maxSteps:=2000000) (disch:=first|omega|assumption) [zz,-List.reduceReplicate,Tryz.f226,hH,hbe])
  exact⟨l,List.Perm.refl _,hG1,rfl⟩
theorem KF.freeze {f:FuncId} {args:List TV} {ws:List Txt} (h:q7 Tryz.prog f args [] fun r H'=>∃v,r=.av TxS v∧KF ws v H'):PC Tryz.prog f args (.av TxS (.sl .no (strs ws))):=by
 refine h.freeze laid ?_
 rintro r H' ⟨v,rfl,⟨rfl,rfl,rfl⟩|⟨b,cap,j,hj,rfl,hc,rfl⟩⟩ _
 ·exact .inr ⟨rfl,rfl⟩
 ·refine .inl ⟨b,cap,9,_,[],List.Perm.refl _,?_,rfl⟩
  simp only[zho,fzA]
  rw[if_pos ⟨trivial,trivial,by omega,by omega⟩,List.drop_zero,List.take_left' (by simp[strs])]
set_option maxHeartbeats 4000000 in
theorem zzm (l:List Txt) (hl:l.length≤1000000):PC Tryz.prog 132 [.av TxS (.sl .no (strs l))] (.av TxS (.sl .no (strs (zyE l)))):=by
 refine KF.freeze ?_
 refine q7.sub (R:=fun r H'=>∃v H2,Ab.HSub H2 H'∧r=.av TxS v∧KF (zyE l) v H2) ?_ fun r H' ⟨v,H2,h1,h2,h3⟩ _=>⟨H2,h1,v,h2,h3⟩
 have hse:=zyQ l
 refine q7.of_vc laid mixed Tryz.func132 rfl cf0 (by kernel_rfl) (by simp[Tryz.ntmps132]) fun imm0 w0=>?_
 (simp (maxSteps:=2000000) (disch:=first|omega|assumption) [zz,-List.reduceReplicate])
 refine jP (R:=fun r H'=>∃c,r=.av .func (.fn 226 [.ptr c TxS []])∧H'=[(c,vbO l)]) rfl (by simp[qQ]) (by simp) ?_ ?_
 ·simpa[TV.er,AV.er,hse]using zzt l
 rintro r H' ⟨c,rfl,rfl⟩
 have hbe:=zzI l
 (simp (maxSteps:=2000000) (disch:=first|omega|assumption) [zz,-List.reduceReplicate])
 refine jP (R:=wS l [(c,vbO l)]) rfl (by simp[qQ]) (by simp) ?_ ?_
 ·have:=ze9 (zzk c l (by omega)) hl
  simpa[TV.er,AV.er,AV.ers,q8.er_cons,q8.er_nil,hbe]using this
 rintro r H' ⟨v,H1,rfl,hrow,rfl⟩
 obtain⟨e1,e2⟩:=hrow.er
 (simp (maxSteps:=2000000) (disch:=first|omega|assumption) [zz,-List.reduceReplicate])
 refine qE (R:=fun r H'=>∃v',r=.av TxS v'∧KF (kF (kK l)) v' H') H1 [(c,vbO l)] (List.Perm.refl _) rfl (by simp[qQ]) (by simp) ?_ ?_
 ·have:=zfv (kK l) v H1 hrow (by rw[ZO];omega)
  simpa[TV.er,e1,e2]using this
 rintro r H' ⟨v',rfl,hrow'⟩ _
 refine⟨_,HSub.refl _,?_⟩
 obtain⟨e3,e4⟩:=hrow'.er
 (simp (maxSteps:=2000000) (disch:=first|omega|assumption) [zz,-List.reduceReplicate,e3,e4,hbe,q8.er_app,Tryz.f132])
 exact⟨v',H',HSub.of_sub (List.sublist_append_left _ _),rfl,hrow'⟩
abbrev SeS:TyD:=.slice 103
abbrev SeT:TyD:=.struct [9,9]
def sts (l:List (Txt × Txt)):List AV:=l.map Z7
theorem zzd (l:List (Txt × Txt)):AV.ers (sts l)=sts l:=by simp[sts,Z7,AV.ers_eq,Function.comp_def,AV.er,AV.ers]
noncomputable def seO (l:List (Txt × Txt)):HObj:=.var SeS (.sl .no (sts l))
theorem zzz (l:List (Txt × Txt)):(seO l).er=seO l:=by simp[seO,HObj.er_var,AV.erk,zzd]
abbrev zBp:Cfg:=⟨fun n=>n==1,fun _=>false⟩
theorem zze (l:List (Txt × Txt)):q7 Tryz.prog 182 [.av SeS (.sl .no (sts l))] [] fun r H'=>∃c,r=.av .func (.fn 225 [.ptr c SeS []])∧H'=[(c,seO l)]:=by
 refine q7.of_vc laid mixed Tryz.func182 rfl zBp (by kernel_rfl) (by simp[Tryz.ntmps182]) fun imm0 w0=>?_
 (simp (maxSteps:=2000000) (disch:=first|omega|assumption) [zz,-List.reduceReplicate])
 intro c
 (simp (maxSteps:=2000000) (disch:=first|omega|assumption) [zz,-List.reduceReplicate,Tryz.f182,seO,AV.ers,zzd])
set_option maxHeartbeats 4000000 in
theorem zzv {G:Nat→q8→Prop} (y c:Nat) (l:List (Txt × Txt)) (hl:l.length≤1000000000) (hGe:∀k H,G k H→H.er=H)
  (hY:∀k (hk:k<l.length) H,G k H→YC Tryz.prog y [.av (.int .i64) (.i .i64 (l.length-1-k:Nat)),.av SeT (Z7 (l[l.length-1-k]'(by omega)))] H fun r H'=>r=.av .bool (.b true)∧G (k+1) H') :
  ∀H,G 0 H→q7 Tryz.prog 225 [.av .func (.yl y),.av .ptr (.ptr c SeS [])] ((c,seO l)::H)
   fun r H'=>r=.tup []∧∃H1,G l.length H1∧H'=(c,seO l)::H1:=by
 intro H hG
 have hbe:=zzz l
 have hsl:∀x:List (Txt × Txt),(sts x).length=x.length:=fun x=>by simp[sts]
 refine q7.of_vc laid mixed Tryz.func225 rfl cf0 (by kernel_rfl) (by simp[Tryz.ntmps225]) fun imm0 w0=>?_
 (simp (maxSteps:=2000000) (disch:=first|omega|assumption) [zz,-List.reduceReplicate,seO,hsl])
 refine AT.loop' (α:=Nat × q8) (fun p=>St.of [(0,.av .func (.yl y)),(1,.av .ptr (.ptr c SeS [])),(3,.av (.int .i64) (.i .i64 ((l.length:Int)-1-p.1)))] [] (fun _=>0) ((c,seO l)::p.2))
  (fun p=>p.1≤l.length∧G p.1 p.2) (fun p=>l.length-p.1) (0,H) ?_ ?_ ?_
 ·refine Le.of ?_ ?_ ?_ ?_ ?_<;>simp[qU,qG,seO]<;>try omega
 ·exact⟨by omega,hG⟩
 rintro⟨k,H1⟩ ⟨hk,hG1⟩ KL hN hE
 simp only at hk hG1 hN
 refine qM (cf:=cf0) laid mixed _ _ _ (by kernel_rfl) ?_
 by_cases hlt:k<l.length
 ·obtain⟨i,hi⟩:∃i:Nat,i=l.length-1-k:=⟨_,rfl⟩
  have hii:(l.length:Int)-1-k=i:=by omega
  have hil:i<l.length:=by omega
  have hgi:(sts l)[i]?=some (Z7 l[i]):=by simp[sts,List.getElem?_eq_getElem hil]
  rw[hii]
  have hge:(0:Int)≤i:=by omega
  (simp (maxSteps:=2000000) (disch:=first|omega|assumption) [zz,-List.reduceReplicate,hge,seO,hgi,hsl,hil])
  refine JY (R:=fun r H'=>r=.av .bool (.b true)∧G (k+1) H') H1 [(c,seO l)] (List.perm_append_comm (l₁:=[_])) (by simp[qQ]) ?_ ?_
  ·rw[hGe _ _ hG1]
   have:=hY k hlt _ hG1
   simpa[TV.er,←hi]using this
  rintro r H2 ⟨rfl,hG2⟩ _
  refine⟨(c,seO l)::H2,HSub.of_perm (List.perm_append_comm (l₂:=[_])),?_⟩
  (simp (maxSteps:=2000000) (disch:=first|omega|assumption) [zz,-List.reduceReplicate])
  refine hN _ (k+1,H2) ?_ ⟨by omega,hG2⟩ (by simp only;omega)
  refine Le.of ?_ ?_ ?_ ?_ ?_<;>simp[qU,qG,seO]<;>try omega
 ·have hge:(l.length:Int)-1-k=-1:=by omega
  rw[hge]
  (simp (maxSteps:=2000000) (disch:=first|omega|assumption) [zz,-List.reduceReplicate])
  refine hE _ _ (by simp) ?_
  have hkl:k=l.length:=by omega
  subst hkl
  have hH:=hGe _ _ hG1
  (simp (maxSteps:=2000000) (disch:=first|omega|assumption) [zz,-List.reduceReplicate,Tryz.f225,hH,hbe])
  exact⟨hG1,by first|rfl|simp[seO]⟩
def zzg (l:List (Txt × Txt)) (k:Nat):List (Txt × Txt):=zyG (l.drop (l.length-k))
theorem zzu (l:List (Txt × Txt)) (k:Nat) (h:k<l.length):zzg l (k+1)=zyY (l[l.length-1-k]'(by omega)).1 (l[l.length-1-k]'(by omega)).2 (zzg l k):=by
 have e:l.length-(k+1)=l.length-1-k:=by omega
 have e2:l.length-k=(l.length-1-k)+1:=by omega
 unfold zzg
 rw[e,e2,List.drop_eq_getElem_cons (by omega)]
 rfl
theorem zzF (l:List (Txt × Txt)):zzg l l.length=zyG l:=by simp[zzg]
def tkE (d:Nat):Nat→Tok
 | 0=>.full
 | k+1=>.own d (k+1)
theorem zzn (m:List (Txt × Txt)) (l:List Txt) (k:Nat) (h:k<l.length):strs (zyD m (l.take (k+1)))=strs (zyD m (l.take k))++[.s l[k],.s (zzl m l[k])]:=by
 rw[List.take_succ_eq_append_getElem h];simp only[zyD,strs,List.flatMap_append,List.map_append,List.flatMap_cons,List.flatMap_nil,List.append_nil,List.map_cons,List.map_nil]
theorem zyS (m:List (Txt × Txt)):∀l:List Txt,(zyD m l).length=2*l.length
 | []=>rfl
 | x::l=>by have:=zyS m l;simp only[zyD,List.flatMap_cons,List.length_append,List.length_cons,List.length_nil]at this ⊢;omega
abbrev zzy:Cfg:=⟨fun n=>n==3,fun _=>false⟩
set_option maxHeartbeats 16000000 in
theorem zAu (l:List (Txt × Txt)) (hl:l.length≤1000000):PC Tryz.prog 131 [.av SeS (zS l)] (.av TxS (.sl .no (strs (zyK l)))):=by
 unfold PC
 have hse2:AV.ers (l.map Z7)=l.map Z7:=zzd l
 have hse:(zS l).er=zS l:=v8 l
 refine q7.sub (R:=fun r H'=>r=.av TxS (.sl .no (strs (zyK l)))) ?_ (fun r H' hr _=>⟨[],HSub.of_sub (List.nil_sublist _),hr,rfl⟩)
 refine q7.of_vc laid mixed Tryz.func131 rfl zzy (by kernel_rfl) (by simp[Tryz.ntmps131]) fun imm0 w0=>?_
 (simp (maxSteps:=2000000) (disch:=first|omega|assumption) [zz,-List.reduceReplicate])
 intro M b3 m1
 have m1':¬M=b3:=fun e=>m1 e.symm
 refine qE (R:=fun r' H'=>∃c,r'=.av .func (.fn 225 [.ptr c SeS []])∧H'=[(c,seO l)]) [] [(b3,wbO M),(M,wrO [])] (List.Perm.refl _) rfl (by simp[qQ]) (by simp) ?_ ?_
 ·have:=zze l
  simpa[TV.er,AV.er,hse2,zS,sts]using this
 rintro r' H' ⟨c,rfl,rfl⟩ hnd2
 have hc1:(¬c=b3∧¬c=M)∧¬b3=M:=by simpa using hnd2
 obtain⟨⟨hc1,hc2⟩,_⟩:=hc1
 refine⟨[(c,seO l),(b3,wbO M),(M,wrO [])],HSub.refl _,?_⟩
 (simp (maxSteps:=2000000) (disch:=first|omega|assumption) [zz,-List.reduceReplicate])
 refine AT.absE (fun E=>E 3=.av .ptr (.ptr b3 WrT [])∧E 11=.av .func (.fn 225 [.ptr c SeS []])) (by simp) ?_
 rintro E ⟨hE3,hE11⟩
 refine AT.range (gf:=225) rfl (by simpa using hE11) rfl (by simp) ?_
 intro y D rr i0 w1 hy hrec hready hpend hpar has hbo
 simp at hy
 obtain⟨y1,y2,y3⟩:=hy
 have y2':¬b3=y:=fun e=>y2 e.symm
 have y3':¬M=y:=fun e=>y3 e.symm
 obtain⟨G,hG⟩:∃G:Nat→q8→Prop,G=fun k H=>H=[(y,.lrec rr i0 w1),(b3,wbO M),(M,wrO (zzg l k))]:=⟨_,rfl⟩
 have hwe:=fun l=>QZ l
 have hbe:(wbO M).er=wbO M:=rfl
 have hce:=zzz l
 have hmm:∀l:List (Txt × Txt),List.map (fun p=>(p.1.er,p.2.er)) (wrE l)=wrE l:=by simp[wrE,AV.er,Function.comp_def]
 refine⟨(c,seO l)::[(y,.lrec rr i0 w1),(b3,wbO M),(M,wrO [])],[],fun t H'=>t=.tup []∧∃H1,G l.length H1∧H'=(c,seO l)::H1,?_,?_,?_⟩
 ·rw[List.append_nil]
  exact List.Perm.swap _ _ _
 ·have he:q8.er ((c,seO l)::[(y,.lrec rr i0 w1),(b3,wbO M),(M,wrO [])])=(c,seO l)::[(y,.lrec rr i0 w1),(b3,wbO M),(M,wrO [])]:=by
   simp only[q8.er_cons,q8.er_nil,hwe,hbe,hce];rfl
  rw[he]
  refine zzv (G:=G) y c l (by omega) ?_ ?_ _ ?_
  ·rw[hG]
   rintro k H rfl
   simp only[q8.er_cons,q8.er_nil,hwe,hbe];rfl
  ·rw[hG]
   rintro k hk H rfl
   obtain⟨x,hx⟩:∃x,x=l[l.length-1-k]'(by omega):=⟨_,rfl⟩
   have hnx:=zzu l k hk
   rw[←hx]at hnx ⊢
   refine zeS (R:=fun rrr H'=>rrr=.av .bool (.b true)∧Ab.HSub [(y,.lrec rr i0 w1),(b3,wbO M),(M,wrO (zzg l (k+1)))] H') ?_ (fun rrr H' ⟨e1,e7⟩ _=>⟨_,e7,e1,rfl⟩)
   refine YC.of_round (l:=y) hrec hready (by rw[hpar];rfl) (by rw[hpar];simp) (fun imm wd=>?_)
   rw[has,hbo,hpar]
   have hrl:∀(pp:Array Nat) (a b:Code),pp=rr.params→a=rr.assign→b=rr.body→({ state:=.ready,pending:=none,fn:=rr.fn,tmps:=rr.tmps,params:=pp,assign:=a,body:=b,defers:=rr.defers }:Loop)=rr:=by
    rintro _ _ _ rfl rfl rfl;exact u7 hready hpend
   have her:∀r',(HObj.lrec r' i0 w1).er=HObj.lrec r' i0 w1:=fun _=>rfl
   refine qM (cf:=zzy) laid mixed _ _ _ (by kernel_rfl) ?_
   (simp (maxSteps:=2000000) (disch:=first|omega|assumption) [zz,-List.reduceReplicate,QW,yL,vS,Z7])
   refine qM (cf:=zzy) laid mixed _ _ _ (by kernel_rfl) ?_
   (simp (maxSteps:=2000000) (disch:=first|omega|assumption) [zz,-List.reduceReplicate,hE3,y2,y2',y3,y3',m1,m1',wbO,wrO,zz7,WR,uV])
   rw[her,hrl _ _ _ hpar.symm has.symm hbo.symm,hnx,hmm]
   exact HSub.refl _
  ·rw[hG]
   show _=_
   simp[zzg,zyG]
 ·rintro t H' ⟨rfl,H1,hG1,rfl⟩ hnd3
  rw[hG]at hG1
  subst hG1
  refine⟨rr,[(b3,wbO M),(M,wrO (zyG l)),(c,seO l)],HSub.of_perm (by rw[List.append_nil,zzF];exact List.perm_append_comm (l₁:=[_]) (l₂:=[_,_,_])),by rw[hready];simp,?_⟩
  rw[hpend]
  (simp (maxSteps:=2000000) (disch:=first|omega|assumption) [zz,-List.reduceReplicate,PR,hE3,wbO])
  refine qE (R:=fun r H'=>∃c2,r=.av .func (.fn 125 [.ptr c2 WrT []])∧H'=[(c2,wbO M)]) [] [(b3,wbO M),(M,wrO (zyG l)),(c,seO l)] (List.Perm.refl _) rfl (by simp[qQ]) (by simp) ?_ ?_
  ·simpa[TV.er,AV.er]using zk4 M
  rintro r' H' ⟨c2,rfl,rfl⟩ hnd4
  have n2:¬c2=M:=fun e=>by simp[e]at hnd4
  obtain⟨m,hm⟩:∃m,m=zyG l:=⟨_,rfl⟩
  have hml:m.length≤1000000:=by rw[hm];exact Nat.le_trans (zz0 l) hl
  have hek:zyK l=zyD m (kK (m.map (·.1))):=by rw[hm];rfl
  rw[←hm]
  refine⟨[(c2,wbO M),(b3,wbO M),(M,wrO m),(c,seO l)],HSub.refl _,?_⟩
  (simp (maxSteps:=2000000) (disch:=first|omega|assumption) [zz,-List.reduceReplicate])
  refine qE (R:=wS (m.map (·.1)) [(M,wrO m),(c2,wbO M)]) [(M,wrO m),(c2,wbO M)] [(b3,wbO M),(c,seO l)] (List.perm_iff_count.2 fun a=>by simp only[List.count_append,List.count_cons,List.count_nil];omega) rfl (by simp[qQ]) (by simp) ?_ ?_
  ·have:=ze9 (zz8 c2 M n2 m) (by simpa using hml)
   simpa[TV.er,AV.er,AV.ers,q8.er_cons,q8.er_nil,hwe,hbe]using this
  rintro r' H' ⟨v,HR,rfl,hrow,rfl⟩ hnd5
  obtain⟨ks,hks⟩:∃ks,ks=kK (m.map (·.1)):=⟨_,rfl⟩
  rw[←hks]at hrow hek
  have hkl:ks.length≤1000000:=by rw[hks,ZO];simpa using hml
  refine⟨HR++[(b3,wbO M),(M,wrO m),(c2,wbO M),(c,seO l)],HSub.of_perm (List.perm_iff_count.2 fun a=>by simp only[List.count_append,List.count_cons,List.count_nil];omega),?_⟩
  rcases hrow with⟨hk0,rfl,rfl⟩|⟨b,cap,j,hj,rfl,hcap,rfl⟩
  ·(simp (maxSteps:=2000000) (disch:=first|omega|assumption) [zz,-List.reduceReplicate])
   have h0:zyK l=[]:=by rw[hek,hk0];rfl
   refine AT.loop' (α:=Unit) (fun _=>St.of [(6,.cst (.slice none 0 0)),(22,.av (.int .i64) (.i .i64 0)),(23,.av (.int .i64) (.i .i64 0))] [] (fun _=>0) [] [D]) (fun _=>True) (fun _=>0) () ?_ trivial ?_
   ·refine Le.of ?_ ?_ ?_ ?_ ?_<;>simp[qU,qG,zX]<;>try omega
   rintro _ _ KL hN hE
   refine qM (cf:=zzy) laid mixed _ _ _ (by kernel_rfl) ?_
   (simp (maxSteps:=2000000) (disch:=first|omega|assumption) [zz,-List.reduceReplicate])
   refine hE _ _ (by simp) ?_
   (simp (maxSteps:=2000000) (disch:=first|omega|assumption) [zz,-List.reduceReplicate,h0,strs,Tryz.f131])
  ·(simp (maxSteps:=2000000) (disch:=first|omega|assumption) [zz,-List.reduceReplicate])
   refine AT.loop' (α:=Nat) (fun k=>St.of [(3,.av .ptr (.ptr b3 WrT [])),(6,.av TxS (.sl (tkE 33 k) (strs (zyD m (ks.take k))))),(21,.av TxS (.msl b 9 0 ks.length cap)),(22,.av (.int .i64) (.i .i64 ks.length)),(23,.av (.int .i64) (.i .i64 k))] [] (fun j=>if j=33 then k else 0) [(b,wY cap ks j),(b3,wbO M),(M,wrO m)] [D])
    (fun k=>k≤ks.length) (fun k=>ks.length-k) 0 ?_ ?_ ?_
   ·refine Le.of ?_ ?_ ?_ ?_ ?_<;>simp[qU,qG,zX,tkE,zyD,strs,wY,hE3]<;>try omega
   ·omega
   rintro k hk KL hN hE
   refine qM (cf:=zzy) laid mixed _ _ _ (by kernel_rfl) ?_
   by_cases hlt:k<ks.length
   ·have hlt':(k:Int)<ks.length:=by omega
    have hg:=YT ks j k hlt
    have hst:=zzn m ks k hlt
    have hpl:=zyS m (ks.take k)
    have htl:(ks.take k).length=k:=by rw[List.length_take];omega
    rw[htl]at hpl
    have hfd:=VO ks[k] m
    have hme:ks[k]∈m.map (·.1):=by rw[←(W0 (m.map (·.1))).mem_iff,←hks];exact List.getElem_mem hlt
    obtain⟨z,hz⟩:=zcf hme
    have hvz:zzl m ks[k]=z.2:=by unfold zzl;rw[hz];rfl
    rw[hz]at hfd
    rw[hvz]at hst
    simp only[Option.map_some]at hfd
    obtain⟨x,hx⟩:∃x,x=ks[k]:=⟨_,rfl⟩
    rw[←hx]at hg hst hfd
    have nb:¬b=b3:=fun e=>by simp[e]at hnd5
    have nb2:¬b=M:=fun e=>by simp[e]at hnd5
    have nb':¬b3=b:=fun e=>nb e.symm
    have nb2':¬M=b:=fun e=>nb2 e.symm
    cases k with
    | zero =>
     have hp0:zyD m []=[]:=rfl
     have hst1:strs (zyD m (ks.take 1))=[.s x,.s z.2]:=hst
     have hs0:strs []=[]:=rfl
     (simp (maxSteps:=2000000) (disch:=first|omega|assumption) [zz,hlt,hg,wY,wbO,wrO,nb,nb',nb2,nb2',m1,m1',hfd,tkE,qX,hp0])
     (simp (maxSteps:=2000000) (disch:=first|omega|assumption) [zz,wB,hp0])
     (repeat with_reducible refine om ?_)
     refine hN _ 1 ?_ (by omega) (by omega)
     refine Le.of ?_ ?_ ?_ ?_ ?_<;>simp[qU,qG,tkE,hst1,wY,wbO,wrO,hs0,hp0]<;>try omega
    | succ k =>
     have hlI:(k:Int)+1<ks.length:=by omega
     (simp (maxSteps:=2000000) (disch:=first|omega|assumption) [zz,hlI,hlt,hg,wY,wbO,wrO,nb,nb',nb2,nb2',m1,m1',hfd,tkE,qX,hpl])
     (simp (maxSteps:=2000000) (disch:=first|omega|assumption) [zz,wB,hpl])
     (repeat with_reducible refine om ?_)
     refine hN _ (k+2) ?_ (by omega) (by omega)
     refine Le.of ?_ ?_ ?_ ?_ ?_<;>simp[qU,qG,tkE,hst,wY,wbO,wrO]<;>try omega
     all_goals (intro j;by_cases hj:j=33<;>simp[hj])
   have hlt':¬(k:Int)<ks.length:=by omega
   (simp (maxSteps:=2000000) (disch:=first|omega|assumption) [zz,-List.reduceReplicate,hlt'])
   refine hE _ _ (by simp) ?_
   rw[List.take_of_length_le (by omega)]
   (simp (maxSteps:=2000000) (disch:=first|omega|assumption) [zz,-List.reduceReplicate,hek,zyQ,Tryz.f131])
end Go.Proofs.YtidhkfcjichiiaaGreatDoor
end
