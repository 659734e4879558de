/- The law BoxEnds: the program. No condition beyond each theorem's own. -/
import Derived.Test.YtooipdkilgpojaaGreatDoorBE0
import Derived.Test.YtooipdkilgpojaaGreatDoorBX2ToBL0
import Derived.Test.YtooipdkilgpojaaGreatDoorRW4ToGB1
import Derived.Test.YtooipdkilgpojaaGreatDoorP18ToKBs
import Derived.Test.YtooipdkilgpojaaGreatDoorBR0ToKK1
import Derived.Test.YtooipdkilgpojaaGreatDoorGB4ToKT3
set_option linter.unusedSimpArgs false
set_option linter.unusedVariables false
set_option linter.unusedSectionVars false
section
set_option maxRecDepth 100000
namespace Go.Proofs.YtooipdkilgpojaaGreatDoor
open Go Go.Ab
open Classical
variable [Sel] [SelPow] [SelMax]
end Go.Proofs.YtooipdkilgpojaaGreatDoor
end
section
set_option maxRecDepth 100000
namespace Go.Proofs.YtooipdkilgpojaaGreatDoor
open Go Go.Ab
open Classical
variable [Sel] [SelPow] [SelMax]
noncomputable def goF (f:Txt→Option KnV):Nat→BoxV→Option BoxV
 | 0,_=>none
 | n+1,b=>if b.over=true then some b else match f b.asks with
  | none=>some b
  | some k=>goF f n (kB k b).2
def Ans (f:Txt→Option KnV):Prop:=∀p k,f p=some k→k.path=p∧k.data.length≤65536
theorem zwI {env:List (Txt × Txt)} {c0:CfV} {outs:List Txt} {may:Txt→Bool} {f:Txt→Option KnV} (hf:Ans f):∀(n:Nat) {kn:List KnV} {wr:List DoV} {b:BoxV},WY env c0 kn outs may wr b→500-kn.length<n→
  ∃b',goF f n b=some b'∧(b'.over=true∨f b'.asks=none)
 | 0,_,_,_,_,h=>absurd h (Nat.not_lt_zero _)
 | n+1,kn,wr,b,h,hn=>by
  rw[goF]
  by_cases ho:b.over=true
  ·rw[if_pos ho];exact⟨b,rfl,.inl ho⟩
  rw[if_neg ho]
  have ho':b.over=false:=by simpa using ho
  cases hk:f b.asks with
  | none=>exact⟨b,rfl,.inr hk⟩
  | some k =>
   simp only
   obtain⟨hk1,hk2⟩:=hf _ _ hk
   obtain⟨_,m,hg⟩:=h.give ho' k hk1 (fun _=>hk2)
   have hl:=hg.len
   simp only[List.length_append,List.length_cons,List.length_nil]at hl
   exact zwI hf n hg (by simp only[List.length_append,List.length_cons,List.length_nil];omega)
theorem zw2 {t:Txt} {cs:List CmdV} (hcs:j7 t=.ok cs) {env:List (Txt × Txt)} (h1:env.length≤1000000000) (h2:∀x∈env,x.2.length≤1000000000000000) {outs:List Txt} {may:Txt→Bool} {f:Txt→Option KnV} (hf:Ans f) :
  ∃b',goF f 600 (ZR env outs may cs)=some b'∧Z4 env cs outs may [] (ZR env outs may cs)∧(b'.over=true∨f b'.asks=none):=by
 obtain⟨m,h⟩:=zec env outs may cs (y8 hcs)
 obtain⟨b',g1,g2⟩:=zwI hf 600 h (by simp)
 exact⟨b',g1,zbj hcs h1 h2 outs may,g2⟩
theorem zwK {env:List (Txt × Txt)} {cs:List CmdV} {outs:List Txt} {may:Txt→Bool} {f:Txt→Option KnV} (hf:Ans f):∀(n:Nat) {kn:List KnV} {b b':BoxV},Z4 env cs outs may kn b→goF f n b=some b'→∃kn',Z4 env cs outs may kn' b'
 | 0,_,_,_,_,h=>by cases h
 | n+1,kn,b,b',hk,h=>by
  rw[goF]at h
  by_cases ho:b.over=true
  ·rw[if_pos ho]at h;cases h;exact⟨kn,hk⟩
  rw[if_neg ho]at h
  have ho':b.over=false:=by simpa using ho
  cases hfk:f b.asks with
  | none=>rw[hfk]at h;cases h;exact⟨kn,hk⟩
  | some k =>
   rw[hfk]at h
   simp only at h
   obtain⟨hk1,hk2⟩:=hf _ _ hfk
   exact zwK hf n (hk.give k ho' hk1 (fun _=>hk2)).2 h
theorem zuS {b:BoxV} {k:KnV} (ho:b.over=false) (hp:k.path=b.asks) (hd:k.data.length≤65536):(kB k b).2.reads=b.reads++[J9 k]:=by
 unfold kB
 rw[if_neg (by rw[ho];decide),if_neg (by simp[hp]),if_neg (by omega)]
 exact(PD _).2.2
def z1 (fs:List U1) (p:Txt):KnV:=match fs.find? fun f=>decide (f.path=p)with
 | none=>⟨p,false,[]⟩
 | some f=>⟨p,true,f.data⟩
def zuK (fs:List U1):Bool:=fs.any fun f=>decide (65536<f.data.length)
def zvh:zcy:=⟨0,0,[],[]⟩
noncomputable def zuJ (f:Txt→Option KnV) (a:xW) (cs:List CmdV):BoxV:=(goF f 600 (ZR a.env a.outs (jI a) cs)).getD (ZR a.env a.outs (jI a) cs)
noncomputable def zuM (fs:List U1):Txt→Option KnV:=fun p=>some (z1 fs p)
noncomputable def zuI (a:xW) (fs:List U1):zcy × Int:=match j7 a.tool with
 | .error en=>(zvh,en.1)
 | .ok cs=>if zuK fs=true then(zvh,6) else((yD (zuJ (zuM fs) a cs)).1,0)
theorem zvy (fs:List U1) (p:Txt):(z1 fs p).path=p:=by unfold z1;split<;>rfl
theorem zuU {fs:List U1} (h:zuK fs=false):Ans (zuM fs):=by
 intro p k hk
 have hk:=(Option.some.inj hk).symm
 subst hk
 refine⟨zvy fs p,?_⟩
 unfold z1
 cases hf:fs.find? (fun f=>decide (f.path=p))with
 | none=>simp
 | some f =>
  have hm:=List.mem_of_find?_eq_some hf
  unfold zuK at h
  rw[List.any_eq_false]at h
  have:=h f hm
  simpa using this
theorem zv2 {a:xW} (ha:zky a) {cs:List CmdV} (hcs:j7 a.tool=.ok cs) {fs:List U1} (hl:zuK fs=false) :
  goF (zuM fs) 600 (ZR a.env a.outs (jI a) cs)=some (zuJ (zuM fs) a cs)∧(zuJ (zuM fs) a cs).over=true∧Z4 a.env cs a.outs (jI a) [] (ZR a.env a.outs (jI a) cs):=by
 obtain⟨b',g1,g2,g3⟩:=zw2 hcs (by have:=ha.be;omega:a.env.length≤1000000000) ha.bev (outs:=a.outs) (may:=jI a) (zuU hl)
 have:zuJ (zuM fs) a cs=b':=by unfold zuJ;rw[g1];rfl
 rw[this]
 exact⟨g1,g3.resolve_right (by simp[zuM]),g2⟩
theorem zvF {a:xW} {fs:List U1} (h:(zuI a fs).2=0):∃cs,j7 a.tool=.ok cs∧zuK fs=false∧zuI a fs=((yD (zuJ (zuM fs) a cs)).1,0):=by
 unfold zuI at h ⊢
 cases hc:j7 a.tool with
 | error en =>
  rw[hc]at h
  have:=Z8 (e:=en.1) (n:=en.2) hc
  simp only at h
  rcases this with h1|h1<;>omega
 | ok cs =>
  rw[hc]at h
  simp only at h ⊢
  cases hl:zuK fs with
  | true=>rw[hl]at h;simp at h
  | false=>exact⟨cs,rfl,rfl,by simp⟩
end Go.Proofs.YtooipdkilgpojaaGreatDoor
end
section
set_option maxRecDepth 100000
namespace Go.Proofs.YtooipdkilgpojaaGreatDoor
open Go Go.Ab
open Classical
variable [Sel] [SelPow] [SelMax]
end Go.Proofs.YtooipdkilgpojaaGreatDoor
end
section
set_option maxRecDepth 100000
namespace Go.Proofs.YtooipdkilgpojaaGreatDoor
open Go Go.Ab
open Classical
variable [Sel] [SelPow]
end Go.Proofs.YtooipdkilgpojaaGreatDoor
end
section
set_option maxRecDepth 100000
namespace Go.Proofs.YtooipdkilgpojaaGreatDoor
open Go Go.Ab
open Classical
variable [Sel] [SelPow] [SelMax]
def zyY (p d:Txt):List (Txt × Txt)→List (Txt × Txt)
 | []=>[(p,d)]
 | x::r=>if x.1=p then(p,d)::r else x::zyY p d r
theorem zz7 (p d:Txt):∀l:List (Txt × Txt),xX (.s p) (.s d) (wrE l)=wrE (zyY p d l)
 | []=>rfl
 | x::l=>by
  have ih:=zz7 p d l
  simp only[wrE,List.map_cons,xX,zyY,AV.s.injEq]at ih ⊢
  by_cases h:x.1=p
  ·simp[h]
  ·simp only[h,if_false,List.map_cons,ih]
def zyG:List (Txt × Txt)→List (Txt × Txt)
 | []=>[]
 | x::l=>zyY x.1 x.2 (zyG l)
theorem zza (p d q:Txt):∀l:List (Txt × Txt),((zyY p d l).find? fun x=>decide (x.1=q))=if p=q then some (p,d) else l.find? fun x=>decide (x.1=q)
 | []=>by
  by_cases h:p=q<;>simp[zyY,h]
 | x::l=>by
  have ih:=zza p d q l
  rw[zyY]
  by_cases h:x.1=p
  ·rw[if_pos h]
   by_cases hq:p=q
   ·simp[hq]
   ·have:¬x.1=q:=fun e=>hq (h.symm.trans e)
    simp[hq,this]
  ·rw[if_neg h,List.find?_cons,List.find?_cons,ih]
   by_cases hq:p=q
   ·have:¬x.1=q:=fun e=>h (e.trans hq.symm)
    simp[hq,this]
   ·simp[hq]
theorem zyF (q:Txt):∀l:List (Txt × Txt),((zyG l).find? fun x=>decide (x.1=q))=l.find? fun x=>decide (x.1=q)
 | []=>rfl
 | x::l=>by
  rw[zyG,zza,zyF q l,List.find?_cons]
  by_cases h:x.1=q
  ·rw[if_pos h];simp only[h,decide_true];rw[←h]
  ·rw[if_neg h];simp only[h,decide_false]
theorem zzi (p d:Txt):∀l:List (Txt × Txt),(zyY p d l).length≤l.length+1
 | []=>by simp[zyY]
 | x::l=>by
  have:=zzi p d l
  rw[zyY];split<;>simp<;>omega
theorem zz0:∀l:List (Txt × Txt),(zyG l).length≤l.length
 | []=>by simp[zyG]
 | x::l=>by have:=zzi x.1 x.2 (zyG l);have:=zz0 l;rw[zyG];simp;omega
def zzl (m:List (Txt × Txt)) (n:Txt):Txt:=((m.find? fun x=>decide (x.1=n)).getD ([],[])).2
def zyD (m:List (Txt × Txt)) (l:List Txt):List Txt:=l.flatMap fun n=>[n,zzl m n]
noncomputable def zyK (l:List (Txt × Txt)):List Txt:=zyD (zyG l) (kK ((zyG l).map (·.1)))
noncomputable def zyE (l:List Txt):List Txt:=kF (kK l)
noncomputable def zz5 (a:xW):Txt:=WI [a.tool,WI (zyK a.env),WI (zyE a.ins),WI (zyE a.asks),WI (zyE a.outs)]
theorem zzc (x:Txt):∀l:List Txt,x∈kF l↔x∈l
 | []=>by simp[kF]
 | [y]=>by simp[kF]
 | y::z::r=>by
  have ih:=zzc x (z::r)
  rw[kF]
  by_cases h:y=z
  ·rw[if_pos h,ih,h];simp
  ·rw[if_neg h,List.mem_cons,ih,List.mem_cons (b:=y)]
theorem zyX (x:Txt) (l:List Txt):x∈zyE l↔x∈l:=by
 rw[zyE,zzc];exact(List.mergeSort_perm _ _).mem_iff
theorem zz9 {p:Txt} {l:List (Txt × Txt)}:p∈l.map (·.1)↔(l.find? fun x=>decide (x.1=p)).isSome:=by
 rw[List.find?_isSome]
 constructor
 ·intro h;obtain⟨x,h1,h2⟩:=List.mem_map.1 h;exact⟨x,h1,by simpa using h2⟩
 ·rintro⟨x,h1,h2⟩;exact List.mem_map.2 ⟨x,h1,by simpa using h2⟩
@[simp] theorem zny:qZ Tryz.prog 60=true:=by kernel_rfl
@[simp] theorem zrp:z8 Tryz.prog (.func 60)=false:=q9 zny
@[simp] theorem zkD:qZ Tryz.prog 103=true:=by kernel_rfl
@[simp] theorem zqh:z8 Tryz.prog (.func 103)=false:=q9 zkD
@[simp] theorem zlb:qZ Tryz.prog 104=true:=by kernel_rfl
@[simp] theorem zqQ:z8 Tryz.prog (.func 104)=false:=q9 zlb
@[simp] theorem zkW:qZ Tryz.prog 143=true:=by kernel_rfl
@[simp] theorem zqC:z8 Tryz.prog (.func 143)=false:=q9 zkW
@[simp] theorem zzW:qZ Tryz.prog 187=true:=by kernel_rfl
@[simp] theorem zB6:z8 Tryz.prog (.func 187)=false:=q9 zzW
@[simp] theorem zlR:qZ Tryz.prog 142=true:=by kernel_rfl
@[simp] theorem zqi:z8 Tryz.prog (.func 142)=false:=q9 zlR
@[simp] theorem zzK:qZ Tryz.prog 186=true:=by kernel_rfl
@[simp] theorem zAR:z8 Tryz.prog (.func 186)=false:=q9 zzK
abbrev zBj:Cfg:=⟨fun n=>n==1,fun _=>false⟩
noncomputable def vbO (l:List Txt):HObj:=.var TxS (.sl .no (strs l))
theorem zyQ (l:List Txt):AV.ers (strs l)=strs l:=by simp[strs,AV.ers_eq,Function.comp_def,AV.er]
theorem zzI (l:List Txt):(vbO l).er=vbO l:=by simp[vbO,HObj.er_var,AV.erk]
theorem zzt (l:List Txt):q7 Tryz.prog 143 [.av TxS (.sl .no (strs l))] [] fun r H'=>∃c,r=.av .func (.fn 187 [.ptr c TxS []])∧H'=[(c,vbO l)]:=by
 refine q7.of_vc laid mixed Tryz.func143 rfl zBj (by kernel_rfl) (by simp[Tryz.ntmps143]) fun imm0 w0=>?_
 (simp (maxSteps:=2000000) (disch:=first|omega|assumption) [zz,-List.reduceReplicate])
 intro c
 (simp (maxSteps:=2000000) (disch:=first|omega|assumption) [zz,-List.reduceReplicate,Tryz.f143,vbO,AV.ers,zyQ])
set_option maxHeartbeats 4000000 in
theorem zzk (c:Nat) (l:List Txt) (hl:l.length≤1000000000):zzE 187 c TxS [(c,vbO l)] l:=by
 have hbe:=zzI l
 refine⟨by simp,by simp only[q8.er_cons,q8.er_nil,hbe],fun G y hGe hY H hG=>?_⟩
 have hsl:=qX l
 refine q7.of_vc laid mixed Tryz.func187 rfl cf0 (by kernel_rfl) (by simp[Tryz.ntmps187]) fun imm0 w0=>?_
 (simp (maxSteps:=2000000) (disch:=first|omega|assumption) [zz,-List.reduceReplicate,vbO,hsl])
 refine AT.loop' (α:=Nat × q8) (fun p=>St.of [(0,.av .func (.yl y)),(1,.av .ptr (.ptr c TxS [])),(5,.av TxS (.sl .no (strs l))),(6,.av (.int .i64) (.i .i64 l.length)),(7,.av (.int .i64) (.i .i64 p.1))] [] (fun _=>0) ((c,vbO l)::p.2))
  (fun p=>p.1≤l.length∧G (l.take p.1) p.2) (fun p=>l.length-p.1) (0,H) ?_ ?_ ?_
 ·refine Le.of ?_ ?_ ?_ ?_ ?_<;>simp[qU,qG,vbO]<;>try omega
 ·exact⟨by omega,hG⟩
 rintro⟨k,H1⟩ ⟨hk,hG1⟩ KL hN hE
 simp only at hk hG1 hN
 refine qM (cf:=cf0) laid mixed _ _ _ (by kernel_rfl) ?_
 by_cases hlt:k<l.length
 ·have hlt':(k:Int)<l.length:=by omega
  have hg:=yH l k hlt
  (simp (maxSteps:=2000000) (disch:=first|omega|assumption) [zz,-List.reduceReplicate,hlt',hg,vbO,hsl])
  refine JY (R:=fun r H'=>r=.av .bool (.b true)∧G (l.take (k+1)) H') H1 [(c,vbO l)] (List.perm_append_comm (l₁:=[_])) (by simp[qQ]) ?_ ?_
  ·rw[hGe _ _ hG1,List.take_succ_eq_append_getElem hlt]
   have:=hY _ l[k] _ (by rw[List.length_take];omega) hG1
   simpa[TV.er,strs,AV.er]using this
  rintro r H2 ⟨rfl,hG2⟩ _
  refine⟨(c,vbO l)::H2,HSub.of_perm (List.perm_append_comm (l₂:=[_])),?_⟩
  (simp (maxSteps:=2000000) (disch:=first|omega|assumption) [zz,-List.reduceReplicate])
  refine hN _ (k+1,H2) ?_ ⟨by omega,hG2⟩ (by simp only;omega)
  refine Le.of ?_ ?_ ?_ ?_ ?_<;>simp[qU,qG,vbO]<;>try omega
 ·have hlt':¬(k:Int)<l.length:=by omega
  (simp (maxSteps:=2000000) (disch:=first|omega|assumption) [zz,-List.reduceReplicate,hlt',hsl])
  refine hE _ _ (by simp) ?_
  rw[List.take_of_length_le (by omega)]at hG1
  have hH:=hGe _ _ hG1
  (simp (maxSteps:=2000000) (disch:=first|omega|assumption) [zz,-List.reduceReplicate,Tryz.f187,hH,hbe])
  exact⟨l,List.Perm.refl _,hG1,rfl⟩
theorem KF.freeze {f:FuncId} {args:List TV} {ws:List Txt} (h:q7 Tryz.prog f args [] fun r H'=>∃v,r=.av TxS v∧KF ws v H'):PC Tryz.prog f args (.av TxS (.sl .no (strs ws))):=by
 refine h.freeze laid ?_
 rintro r H' ⟨v,rfl,⟨rfl,rfl,rfl⟩|⟨b,cap,j,hj,rfl,hc,rfl⟩⟩ _
 ·exact .inr ⟨rfl,rfl⟩
 ·refine .inl ⟨b,cap,9,_,[],List.Perm.refl _,?_,rfl⟩
  simp only[zho,fzA]
  rw[if_pos ⟨trivial,trivial,by omega,by omega⟩,List.drop_zero,List.take_left' (by simp[strs])]
set_option maxHeartbeats 4000000 in
theorem zzm (l:List Txt) (hl:l.length≤1000000):PC Tryz.prog 104 [.av TxS (.sl .no (strs l))] (.av TxS (.sl .no (strs (zyE l)))):=by
 refine KF.freeze ?_
 refine q7.sub (R:=fun r H'=>∃v H2,Ab.HSub H2 H'∧r=.av TxS v∧KF (zyE l) v H2) ?_ fun r H' ⟨v,H2,h1,h2,h3⟩ _=>⟨H2,h1,v,h2,h3⟩
 have hse:=zyQ l
 refine q7.of_vc laid mixed Tryz.func104 rfl cf0 (by kernel_rfl) (by simp[Tryz.ntmps104]) fun imm0 w0=>?_
 (simp (maxSteps:=2000000) (disch:=first|omega|assumption) [zz,-List.reduceReplicate])
 refine jP (R:=fun r H'=>∃c,r=.av .func (.fn 187 [.ptr c TxS []])∧H'=[(c,vbO l)]) rfl (by simp[qQ]) (by simp) ?_ ?_
 ·simpa[TV.er,AV.er,hse]using zzt l
 rintro r H' ⟨c,rfl,rfl⟩
 have hbe:=zzI l
 (simp (maxSteps:=2000000) (disch:=first|omega|assumption) [zz,-List.reduceReplicate])
 refine jP (R:=wS l [(c,vbO l)]) rfl (by simp[qQ]) (by simp) ?_ ?_
 ·have:=ze9 (zzk c l (by omega)) hl
  simpa[TV.er,AV.er,AV.ers,q8.er_cons,q8.er_nil,hbe]using this
 rintro r H' ⟨v,H1,rfl,hrow,rfl⟩
 obtain⟨e1,e2⟩:=hrow.er
 (simp (maxSteps:=2000000) (disch:=first|omega|assumption) [zz,-List.reduceReplicate])
 refine qE (R:=fun r H'=>∃v',r=.av TxS v'∧KF (kF (kK l)) v' H') H1 [(c,vbO l)] (List.Perm.refl _) rfl (by simp[qQ]) (by simp) ?_ ?_
 ·have:=zfv (kK l) v H1 hrow (by rw[ZO];omega)
  simpa[TV.er,e1,e2]using this
 rintro r H' ⟨v',rfl,hrow'⟩ _
 refine⟨_,HSub.refl _,?_⟩
 obtain⟨e3,e4⟩:=hrow'.er
 (simp (maxSteps:=2000000) (disch:=first|omega|assumption) [zz,-List.reduceReplicate,e3,e4,hbe,q8.er_app,Tryz.f104])
 exact⟨v',H',HSub.of_sub (List.sublist_append_left _ _),rfl,hrow'⟩
end Go.Proofs.YtooipdkilgpojaaGreatDoor
end
