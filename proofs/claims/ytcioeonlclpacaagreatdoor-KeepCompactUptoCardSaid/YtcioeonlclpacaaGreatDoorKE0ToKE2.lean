/- What is kept: the program's records, one by one. No condition beyond each theorem's own. -/
import Derived.Test.YtcioeonlclpacaaGreatDoorKP4ToKB1
import Derived.Test.YtcioeonlclpacaaGreatDoorD4ToD6
import Derived.Test.YtcioeonlclpacaaGreatDoorP46
import Derived.Test.YtcioeonlclpacaaGreatDoorP48ToP44
import Derived.Test.YtcioeonlclpacaaGreatDoorP20ToKJ0
import Derived.Test.YtcioeonlclpacaaGreatDoorI0ToKP3
set_option linter.unusedSimpArgs false
set_option linter.unusedVariables false
set_option linter.unusedSectionVars false
section
set_option maxRecDepth 100000
namespace Go.Proofs.YtcioeonlclpacaaGreatDoor
open Go Go.Ab
open Classical
variable [Sel] [SelPow] [SelErr]
@[simp] theorem znC:qZ Tryz.prog 96=true:=by kernel_rfl
@[simp] theorem zrB:z8 Tryz.prog (.func 96)=false:=q9 znC
@[simp] theorem zoG:qZ Tryz.prog 97=true:=by kernel_rfl
@[simp] theorem zsn:z8 Tryz.prog (.func 97)=false:=q9 zoG
@[simp] theorem zof:qZ Tryz.prog 44=true:=by kernel_rfl
@[simp] theorem zsk:z8 Tryz.prog (.func 44)=false:=q9 zof
@[simp] theorem zAt:qZ Tryz.prog 12=true:=by kernel_rfl
@[simp] theorem zBo:z8 Tryz.prog (.func 12)=false:=q9 zAt
@[simp] theorem zys:qZ Tryz.prog 48=true:=by kernel_rfl
@[simp] theorem zyz:z8 Tryz.prog (.func 48)=false:=q9 zys
@[simp] theorem zlw:qZ Tryz.prog 105=true:=by kernel_rfl
@[simp] theorem zr2:z8 Tryz.prog (.func 105)=false:=q9 zlw
@[simp] theorem zoD:qZ Tryz.prog 16=true:=by kernel_rfl
@[simp] theorem zrv:z8 Tryz.prog (.func 16)=false:=q9 zoD
@[simp] theorem zoL:qZ Tryz.prog 18=true:=by kernel_rfl
@[simp] theorem zs1:z8 Tryz.prog (.func 18)=false:=q9 zoL
@[simp] theorem zG6:qZ Tryz.prog 38=true:=by kernel_rfl
@[simp] theorem zGw:z8 Tryz.prog (.func 38)=false:=q9 zG6
@[simp] theorem znN:qZ Tryz.prog 21=true:=by kernel_rfl
@[simp] theorem zs8:z8 Tryz.prog (.func 21)=false:=q9 znN
abbrev KpT:TyD:=.struct [110,63,113]
structure KA where
 J:Nat
 D:Nat
 E:Nat
 S:Nat
 T:Nat
 o:Bool
 cs:List Cel
noncomputable def kpO (a:KA):HObj:=.var KpT (.agg [.ptr a.J JnT [],.ptr a.D DbT [],.ptr a.S zKp []])
@[simp] theorem zSs (a:KA):(kpO a).er=kpO a:=by simp[kpO,HObj.er_var,AV.erk,AV.erks]
noncomputable def kpH (K B M:Nat) (a:KA) (k:KV):q8:=(K,kpO a)::(jH a.J B M a.o k.j++(DbH a.D a.E k.mo a.cs++stB a.S a.T k.M.bl))
structure zJL (a:KA) (k:KV):Prop where
 cels:∀c∈a.cs,zLA c
 abs:zJx a.cs=k.M.L
def KpR (K B M:Nat) (k:KV) (H:q8):Prop:=∃a,zJL a k∧H=kpH K B M a k
theorem u4 {K B M:Nat} {a:KA} {k:KV} (h:zJL a k):(kpH K B M a k).er=kpH K B M a k:=by
 simp only[kpH,q8.er_cons,q8.er_app,zSs,zLz,zOl,zNh h.cels]
theorem zLS (K B M:Nat) (a:KA) (k:KV):(kpH K B M a k).Perm (DbH a.D a.E k.mo a.cs++((K,kpO a)::(jH a.J B M a.o k.j++stB a.S a.T k.M.bl))):=by
 unfold kpH
 refine List.Perm.trans (List.Perm.cons _ ?_) List.perm_middle.symm
 exact(List.perm_append_comm_assoc _ _ _)
theorem zNo (K B M:Nat) (a:KA) (k:KV):(kpH K B M a k).Perm (stB a.S a.T k.M.bl++((K,kpO a)::(jH a.J B M a.o k.j++DbH a.D a.E k.mo a.cs))):=by
 unfold kpH
 refine List.Perm.trans (List.Perm.cons _ ?_) List.perm_middle.symm
 rw[←List.append_assoc]
 exact List.perm_append_comm
theorem zOR (K B M:Nat) (a:KA) (k:KV):(kpH K B M a k).Perm (jH a.J B M a.o k.j++((K,kpO a)::(DbH a.D a.E k.mo a.cs++stB a.S a.T k.M.bl))):=List.perm_middle.symm
structure KNE (K B M:Nat) (a:KA):Prop where
 MB:M≠B
 JB:a.J≠B
 JM:a.J≠M
 TS:a.T≠a.S
 KJ:K≠a.J
theorem zOX {K B M:Nat} {a:KA} {k:KV} (h:(kpH K B M a k).keys.Nodup):KNE K B M a:=by
 have e:(kpH K B M a k).keys=K::a.J::B::M::(a.D::a.E::(a.cs.map zLb).map (fun p=>p.1))++[a.S,a.T]:=by
  simp[kpH,jH,j4,DbH,stB,stO,q8.keys]
 rw[e]at h
 simp only[List.cons_append,List.nodup_cons,List.mem_cons,List.mem_append,not_or,List.nodup_append,List.nodup_nil,List.not_mem_nil,not_false_eq_true,and_true]at h
 obtain⟨⟨h1,_⟩,⟨h2,h3,_⟩,⟨h4,_⟩,h5⟩:=h
 have h6:([a.S,a.T]:List Nat).Nodup:=by simp_all
 exact⟨fun e=>h4 e.symm,h2,h3,by simp at h6;exact fun e=>h6 e.symm,h1⟩
theorem zM6 {s:St} {dst:Option Nat} {X:St→Prop} {args bs:List TV} {f:Nat} {R0:TV} {bl':BlL} (K B M:Nat) (a:KA) (k:KV) (rest:q8) (hH:s.H.Perm (kpH K B M a k++rest))
  (hc:q7 Tryz.prog f bs (stB a.S a.T k.M.bl) fun r H'=>r=R0∧H'=stB a.S a.T bl') (hf:qZ Tryz.prog f=true) (ha:args.all qQ=true) (hx:qS (args.map TV.er) bs)
  (hk:X (({ s with H:=kpH K B M a ⟨k.j,k.mo,⟨k.M.L,bl'⟩⟩++rest }:St).put dst R0)):ZP Tryz.prog s (.av .func (.fn f [])) args dst X:=by
 refine qE (stB a.S a.T k.M.bl) (((K,kpO a)::(jH a.J B M a.o k.j++DbH a.D a.E k.mo a.cs))++rest) (hH.trans (by rw[←List.append_assoc];exact List.Perm.append_right rest (zNo K B M a k))) rfl ha hf (R:=fun r H'=>r=R0∧H'=stB a.S a.T bl') ?_ ?_
 ·rw[zOl]
  exact q7.args hc (by simpa using hx)
 rintro r' H' ⟨rfl,rfl⟩ _
 refine⟨_,HSub.of_perm ?_,hk⟩
 rw[←List.append_assoc]
 exact List.Perm.append_right rest (zNo K B M a ⟨k.j,k.mo,⟨k.M.L,bl'⟩⟩).symm
theorem zNU {s:St} {dst:Option Nat} {X:St→Prop} {args bs:List TV} {f:Nat} {R0:TV} {j':JV} (K B M:Nat) (a:KA) (k:KV) (rest:q8) (hH:s.H.Perm (kpH K B M a k++rest))
  (hc:q7 Tryz.prog f bs (jH a.J B M a.o k.j) fun r H'=>r=R0∧JnR a.J B M j' H') (hf:qZ Tryz.prog f=true) (ha:args.all qQ=true) (hx:qS (args.map TV.er) bs)
  (hk:∀o',X (({ s with H:=kpH K B M { a with o:=o' } ⟨j',k.mo,k.M⟩++rest }:St).put dst R0)):ZP Tryz.prog s (.av .func (.fn f [])) args dst X:=by
 refine qE (jH a.J B M a.o k.j) (((K,kpO a)::(DbH a.D a.E k.mo a.cs++stB a.S a.T k.M.bl))++rest) (hH.trans (by rw[←List.append_assoc];exact List.Perm.append_right rest (zOR K B M a k))) rfl ha hf (R:=fun r H'=>r=R0∧JnR a.J B M j' H') ?_ ?_
 ·rw[zLz]
  exact q7.args hc (by simpa using hx)
 rintro r' H' ⟨rfl,o',rfl⟩ _
 refine⟨_,HSub.of_perm ?_,hk o'⟩
 rw[←List.append_assoc]
 exact List.Perm.append_right rest (zOR K B M { a with o:=o' } ⟨j',k.mo,k.M⟩).symm
theorem zMU {s:St} {dst:Option Nat} {X:St→Prop} {args bs:List TV} {f:Nat} {R0:TV} {L':DbL} (K B M:Nat) (a:KA) (k:KV) (hk0:zJL a k) (rest:q8) (hH:s.H.Perm (kpH K B M a k++rest))
  (hc:q7 Tryz.prog f bs (DbH a.D a.E k.mo a.cs) fun r H'=>r=R0∧∃cs',(∀c∈cs',zLA c)∧zJx cs'=L'∧H'=DbH a.D a.E k.mo cs') (hf:qZ Tryz.prog f=true) (ha:args.all qQ=true) (hx:qS (args.map TV.er) bs)
  (hk:∀cs',zJL { a with cs:=cs' } ⟨k.j,k.mo,⟨L',k.M.bl⟩⟩→X (({ s with H:=kpH K B M { a with cs:=cs' } ⟨k.j,k.mo,⟨L',k.M.bl⟩⟩++rest }:St).put dst R0)):ZP Tryz.prog s (.av .func (.fn f [])) args dst X:=by
 refine qE (DbH a.D a.E k.mo a.cs) (((K,kpO a)::(jH a.J B M a.o k.j++stB a.S a.T k.M.bl))++rest) (hH.trans (by rw[←List.append_assoc];exact List.Perm.append_right rest (zLS K B M a k))) rfl ha hf (R:=fun r H'=>r=R0∧∃cs',(∀c∈cs',zLA c)∧zJx cs'=L'∧H'=DbH a.D a.E k.mo cs') ?_ ?_
 ·rw[zNh hk0.cels]
  exact q7.args hc (by simpa using hx)
 rintro r' H' ⟨rfl,cs',h1,h2,rfl⟩ _
 refine⟨_,HSub.of_perm ?_,hk cs' ⟨h1,h2⟩⟩
 rw[←List.append_assoc]
 exact List.Perm.append_right rest (zLS K B M { a with cs:=cs' } ⟨k.j,k.mo,⟨L',k.M.bl⟩⟩).symm
theorem zWh (K B M:Nat) (a:KA) (k:KV) (rest:q8):jM (kpH K B M a k++rest) K=some (.var KpT (.agg [.ptr a.J JnT [],.ptr a.D DbT [],.ptr a.S zKp []])):=by simp[kpH,jM,kpO]
theorem zJU (K B M:Nat) (a:KA) (k:KV):jM (kpH K B M a k) K=some (.var KpT (.agg [.ptr a.J JnT [],.ptr a.D DbT [],.ptr a.S zKp []])):=by simp[kpH,jM,kpO]
theorem KpR.of {K B M:Nat} {a:KA} {k:KV} (h:zJL a k):KpR K B M k (kpH K B M a k):=⟨a,h,rfl⟩
set_option maxHeartbeats 4000000 in
theorem zQE (K B M:Nat) (a:KA) (k:KV) (hk:zJL a k) (hs:szB k.M.bl≤1000000000000) (x:List UInt8) (hx:x.length≤1000000000) :
  q7 Tryz.prog 96 [.av .ptr (.ptr K KpT []),.av .str (.s x)] (kpH K B M a k) fun r H'=>r=.av (.int .i64) (.i .i64 0)∧KpR K B M ⟨k.j,k.mo,⟨k.M.L,zJm (sha x) x k.M.bl⟩⟩ H':=by
 refine q7.nodup fun hnd=>?_
 have hne:=zOX hnd
 have hg:=zJU K B M a k
 refine zov Tryz.func96 cf0 fun imm0 w0=>?_
 simp (disch:=omega) [zz,hg]
 refine zM6 K B M a k [] (by simp) (zNY a.S a.T hne.TS k.M.bl hs x hx) (by simp) (by simp[qQ]) (by simp[qS,TV.er,AV.er]) ?_
 have hk2:zJL a ⟨k.j,k.mo,⟨k.M.L,zJm (sha x) x k.M.bl⟩⟩:=⟨hk.cels,hk.abs⟩
 simp (disch:=omega) [zz,Tryz.f96,u4 hk2,KpR.of hk2]
abbrev zTg:Cfg:=⟨fun _=>false,fun n=>n==1000004||n==2000020⟩
set_option maxHeartbeats 4000000 in
theorem zPL (K B M:Nat) (a:KA) (k:KV) (hk:zJL a k) (hm:1≤k.mo) (hm8:k.mo≤8) (x:List UInt8) (hx:x.length≤1000000000) :
  q7 Tryz.prog 97 [.av .ptr (.ptr K KpT []),.av .str (.s x)] (kpH K B M a k) fun r H'=>r=.av (.int .i64) (.i .i64 (zEz x).2)∧KpR K B M (if (zEz x).2=0 then⟨k.j,k.mo,⟨zJj k.mo k.M.L (zEz x).1,k.M.bl⟩⟩ else k) H':=by
 have hg:=zJU K B M a k
 have hrd:=zFN x hx
 refine zov Tryz.func97 zTg fun imm0 w0=>?_
 simp (disch:=omega) [zz]
 refine zcv hrd ?_
 have hch:(zEz x).2=0→TrP (zEz x).1∧zCW (zEz x).1=0:=fun h=>by
  obtain⟨_,h2,_⟩:=zMe (b:=x) (t:=(zEz x).1) (by rw[←h])
  exact⟨zMX h2,h2⟩
 rcases hq:zEz x with⟨t,e⟩
 simp only[zDk]
 rw[hq]at hch
 simp only at hch
 by_cases he:e=0
 ·subst he
  obtain⟨htp,hc0⟩:=hch rfl
  simp (disch:=omega) [zz,hg]
  refine jW.of [0,1,2,3,4,5,6] [] (by kernel_rfl) ?_
  simp (disch:=omega) [zz,hg]
  (repeat with_reducible refine om ?_)
  have hda:=zNv t htp k.mo hm hm8 a.D a.E a.cs hk.cels
  rw[hk.abs,hc0]at hda
  refine zMU K B M a k hk [] (by simp) hda (by simp) (by simp[qQ]) (by simp[qS,TV.er,AV.er]) fun cs' hk2=>?_
  simp (disch:=omega) [zz,Tryz.f97,u4 hk2,KpR.of hk2]
 ·simp (disch:=omega) [zz,he,Tryz.f97,u4 hk,KpR.of hk]
@[simp] theorem zlb:qZ Tryz.prog 104=true:=by kernel_rfl
@[simp] theorem zqQ:z8 Tryz.prog (.func 104)=false:=q9 zlb
abbrev MdT:TyD:=.struct [9,46]
abbrev FiT:TyD:=.struct [9,9]
theorem zLZ (m:Made):(qN m).er=qN m:=by simp[qN,AV.er,AV.ers]
theorem zKm (f:U1):(jZ f).er=jZ f:=by simp[jZ,AV.er,AV.ers]
theorem zQK (m:Made) (f:U1) (hf:f.data.length≤1000000000):PC Tryz.prog 105 [.av MdT (qN m),.av FiT (jZ f)] (.av .bool (.b (decide (m=zJF f)))):=by
 have hsm:=znJ f.data (by omega)
 have hst:zfI f.data=.sl .no [.s f.data]:=rfl
 rw[hst]at hsm
 have hmf:decide (m=zJF f)=(decide (m.path=f.path)&&decide (m.sum=sha f.data)):=by
  obtain⟨p,s⟩:=m
  simp[zJF]
 obtain⟨p,sm⟩:=m
 obtain⟨q,x⟩:=f
 simp only at hsm hf hmf
 refine zow Tryz.func105 cf0 fun imm0 w0=>?_
 by_cases hp:p=q
 ·subst hp
  simp (disch:=omega) [zz,qN,jZ]
  (repeat with_reducible refine om ?_)
  refine jC hsm rfl rfl (by simp) (by simp[qS,TV.er,AV.er,AV.ers]) ?_
  simp (disch:=omega) [zz,KW,zDL,Tryz.f105,hmf]
 ·simp (disch:=omega) [zz,qN,jZ,hp,Tryz.f105,hmf]
  (repeat' (refine And.intro ?_ ?_))<;>(show rdJ _ _ _ _ _=true;kernel_rfl)
theorem zMO (l:List Made) (k:Nat) (h:k<l.length):(l.map qN)[k]?=some (qN l[k]):=by simp[List.getElem?_eq_getElem h]
theorem zK1 (l:List U1) (k:Nat) (h:k<l.length):(l.map jZ)[k]?=some (jZ l[k]):=by simp[List.getElem?_eq_getElem h]
theorem zSd {l:List Made} {o:List U1} (hl:l.length=o.length) (h:∀k (h1:k<l.length) (h2:k<o.length),l[k]=zJF o[k]):l=o.map zJF:=by
 refine List.ext_getElem (by simpa using hl) fun k h1 h2=>?_
 rw[List.getElem_map]
 exact h k h1 (by omega)
set_option maxHeartbeats 4000000 in
theorem zPs (l:List Made) (o:List U1) (hl:l.length≤1000000000) (ho:o.length≤1000000000) (hd:∀f∈o,f.data.length≤1000000000) :
  PC Tryz.prog 104 [.av (.slice 95) (qJ l),.av (.slice 36) (zU o),.av .func (.fn 105 [])] (.av .bool (.b (decide (l=o.map zJF)))):=by
 have he1:qJ l=.sl .no (l.map qN):=rfl
 have he2:zU o=.sl .no (o.map jZ):=rfl
 rw[he1,he2]
 refine zow Tryz.func104 cf0 fun imm0 w0=>?_
 by_cases hn:l.length=o.length
 rotate_left
 ·have hn':¬(l.length:Int)=o.length:=by omega
  have hne:¬l=o.map zJF:=fun e=>hn (by rw[e];simp)
  simp (disch:=omega) [zz,hn',hn,hne,Tryz.f104]
 have hn':(l.length:Int)=o.length:=by omega
 simp (disch:=omega) [zz,hn',hn]
 refine AT.loop' (α:=Nat) (fun k=>St.of [(1,.av (.slice 36) (.sl .no (o.map jZ))),(2,.av .func (.fn 105 [])),(15,.av (.slice 95) (.sl .no (l.map qN))),(16,.av (.int .i64) (.i .i64 o.length)),(17,.av (.int .i64) (.i .i64 k))] [] (fun _=>0) [])
  (fun k=>k≤o.length∧∀j (h1:j<l.length) (h2:j<o.length),j<k→l[j]=zJF o[j]) (fun k=>o.length-k) 0 ?_ ?_ ?_
 ·apply Le.of<;>simp[qU,qG,hn]<;>try omega
 ·exact⟨by simp,fun j _ _ h=>absurd h (by omega)⟩
 rintro k ⟨hk,hp⟩ KL hN hE
 refine qM (cf:=cf0) laid mixed _ _ _ (by kernel_rfl) ?_
 by_cases hlt:k<o.length
 ·have hlt':(k:Int)<o.length:=by omega
  have hlt2:k<l.length:=by omega
  have hg1:=zMO l k hlt2
  have hg2:=zK1 o k hlt
  have hm1:=zQK l[k] o[k] (hd _ (List.getElem_mem hlt))
  obtain⟨m,hm⟩:∃m,m=l[k]:=⟨_,rfl⟩
  obtain⟨f,hf⟩:∃f,f=o[k]:=⟨_,rfl⟩
  rw[←hm]at hg1 hm1
  rw[←hf]at hg2 hm1
  have hme:=zLZ m
  have hfe:=zKm f
  obtain⟨X,hX⟩:∃X,X=qN m:=⟨_,rfl⟩
  obtain⟨Y,hY⟩:∃Y,Y=jZ f:=⟨_,rfl⟩
  rw[←hX]at hg1 hm1 hme
  rw[←hY]at hg2 hm1 hfe
  simp (disch:=omega) [zz,hlt',hg1,hg2,hn]
  refine qL hm1 rfl rfl (by simp) (by simp[qS,TV.er,hme,hfe]) ?_
  by_cases he:m=zJF f
  ·simp (disch:=omega) [zz,he]
   refine hN _ (k+1) ?_ ⟨by omega,fun j h1 h2 h3=>?_⟩ (by omega)
   ·apply Le.of<;>simp[qU,qG,hn]<;>try omega
   ·by_cases hj:j=k
    ·subst hj;rw[←hm,←hf];exact he
    ·exact hp j h1 h2 (by omega)
  ·have hne:¬l=o.map zJF:=fun e=>he (by
    have:l[k]=(o.map zJF)[k]'(by simpa using hlt):=by simp only[e]
    rw[hm,hf,this,List.getElem_map])
   simp (disch:=omega) [zz,he]
   refine hE _ _ (by simp) ?_
   simp (disch:=omega) [zz,hne,Tryz.f104]
 ·have hlt':¬(k:Int)<o.length:=by omega
  have heq:l=o.map zJF:=zSd hn fun j h1 h2=>hp j h1 h2 (by omega)
  have hdt:decide (l=o.map zJF)=true:=decide_eq_true heq
  simp (disch:=omega) [zz,hlt']
  refine hE _ _ (by simp) ?_
  simp (disch:=omega) [zz,hdt,Tryz.f104]
theorem zRw (t:zaP) (o:List U1) (hl:t.outs.length≤1000000000) (ho:o.length≤1000000000) (hd:∀f∈o,f.data.length≤1000000000) :
  PC Tryz.prog 48 [.av TrT (qK t),.av (.slice 36) (zU o)] (.av .bool (.b (decide (t.outs=o.map zJF)))):=by
 have he:=zPs t.outs o hl ho hd
 have he2:(zU o).er=zU o:=by simp[zU,AV.er,AV.ers_eq,zKm,Tok.k]
 have he3:(qJ t.outs).er=qJ t.outs:=by simp[qJ,AV.er,AV.ers_eq,zLZ,Tok.k]
 refine zow Tryz.func48 cf0 fun imm0 w0=>?_
 simp (disch:=omega) [zz,qK]
 refine qL he rfl rfl (by simp) (by simp[qS,TV.er,AV.er,AV.ers,he2,he3]) ?_
 simp (disch:=omega) [zz,Tryz.f48]
theorem zNP (B M:Nat) (hBM:M≠B) (l:BlL) (d:Dig) :
  q7 Tryz.prog 49 [.av .ptr (.ptr B zKp []),.av (qD Tryz.prog 46) (KW d)] (q8.er (stB B M l)) fun r H'=>r=.tup [(.str,.s (((l.find? fun p=>decide (p.1=d)).map Prod.snd).getD [])),(.bool,.b (zJl d l))]∧H'=stB B M l:=by
 rw[zOl];exact zRX B M hBM l (szB l) d
theorem zRl (x:List UInt8) (hx:x.length≤1000000000):PC Tryz.prog 51 [.av (.slice 9) (.sl .no [.s [98,108,111,98],.s x])] (.av .str (.s (zJf x))):=by
 have h:=zyW (l:=[blobW,x]) (n:=1000000004) (by
                                           intro y hy
                                           simp only[List.mem_cons,List.not_mem_nil,or_false]at hy
                                           rcases hy with rfl|rfl
                                           ·simp[blobW]
                                           ·omega)
 simp only[List.length_cons,List.length_nil]at h
 exact zzx [blobW,x] (by simp) (by omega)
theorem zRY (t:zaP) (hd:TrD t):PC Tryz.prog 51 [.av (.slice 9) (.sl .no [.s [116,114,97,99,101],.s (zL2 t)])] (.av .str (.s (zJG t))):=by
 have hb:=zQg hd
 have h:=zyW (l:=[traceW,zL2 t]) (n:=6300000) (by
                                           intro y hy
                                           simp only[List.mem_cons,List.not_mem_nil,or_false]at hy
                                           rcases hy with rfl|rfl
                                           ·simp[traceW]
                                           ·omega)
 simp only[List.length_cons,List.length_nil]at h
 exact zzx [traceW,zL2 t] (by simp) (by omega)
theorem zRe (l:List U1) (i:Nat) (h:i<l.length):wtO (l.take (i+1))=wtO (l.take i)+wtB l[i].data:=by
 rw[List.take_succ_eq_append_getElem h];simp only[wtO,List.map_append,List.sum_append,List.map_cons,List.map_nil,List.sum_cons,List.sum_nil,Nat.add_zero]
theorem zQf (l:List U1) (i:Nat):wtO (l.take i)≤wtO l:=by
 have:wtO (l.take i++l.drop i)=wtO (l.take i)+wtO (l.drop i):=by simp only[wtO,List.map_append,List.sum_append]
 rw[List.take_append_drop]at this;omega
abbrev zSN:Cfg:=⟨fun _=>false,fun n=>n==1000011||n==2000059||n==1000014||n==2000069||n==1000016||n==2000078||n==1000019||n==2000087⟩
set_option maxHeartbeats 32000000 in
theorem zM8 (K B M:Nat) (a:KA) (k:KV) (N:Nat) (hk:zJL a k) (hI:zJS N k) (t:zaP) (ht:TrW t) (hd:TrD t) (outs:List U1) (hol:outs.length≤1000000) (hod:∀f∈outs,f.data.length≤1000000000) (hN:N+(wtO outs+wtT t)≤1000000000) :
  q7 Tryz.prog 16 [.av .ptr (.ptr K KpT []),.av TrT (qK t),.av (.slice 36) (zU outs)] (kpH K B M a k) fun r H'=>r=.av (.int .i64) (.i .i64 (g6 t outs k).2)∧KpR K B M (g6 t outs k).1 H':=by
 refine q7.nodup fun hnd=>?_
 have hne:=zOX hnd
 have hby:=zPy ht.1 hd
 have hfe:(zU outs).er=zU outs:=by simp[zU,AV.er,AV.ers_eq,zKm,Tok.k]
 have hte:(qK t).er=qK t:=zd4 t
 refine zov Tryz.func16 zSN fun imm0 w0=>?_
 simp (disch:=omega) [zz]
 refine qL hby rfl rfl (by simp) (by simp[qS,TV.er,hte]) ?_
 by_cases hc:zCW t=0
 rotate_left
 ·have hb:zDc t=.tup [(.str,.s []),(.int .i64,.i .i64 (zCW t))]:=by unfold zDc;rw[if_neg hc]
  have hkk:g6 t outs k=(k,zCW t):=by unfold g6;rw[if_pos hc]
  rw[hb,hkk]
  simp (disch:=omega) [zz,hc,Tryz.f16,u4 hk,KpR.of hk]
 have hmd:=zRw t outs (by have:=(zDf hc).2;omega) (by omega) hod
 have hb:zDc t=.tup [(.str,.s (zL2 t)),(.int .i64,.i .i64 0)]:=by unfold zDc zL2;rw[if_pos hc,if_pos hc]
 rw[hb]
 simp (disch:=omega) [zz]
 refine qL hmd rfl rfl (by simp) (by simp[qS,TV.er,hte,hfe]) ?_
 by_cases hm:t.outs=outs.map zJF
 rotate_left
 ·have hkk:g6 t outs k=(k,1):=by unfold g6;rw[if_neg (by simpa using hc),if_pos hm]
  rw[hkk]
  simp (disch:=omega) [zz,hm,Tryz.f16,u4 hk,KpR.of hk]
 have hkk:g6 t outs k=if (q6 outs k.j k.M.bl).2.2≠0 then(⟨(q6 outs k.j k.M.bl).1,k.mo,⟨k.M.L,(q6 outs k.j k.M.bl).2.1⟩⟩,(q6 outs k.j k.M.bl).2.2) else
   if (addJ (zJG t) (q6 outs k.j k.M.bl).1).2≠0 then(⟨(addJ (zJG t) (q6 outs k.j k.M.bl).1).1,k.mo,⟨k.M.L,(q6 outs k.j k.M.bl).2.1⟩⟩,(addJ (zJG t) (q6 outs k.j k.M.bl).1).2) else
   (⟨(addJ (zJG t) (q6 outs k.j k.M.bl).1).1,k.mo,⟨zJj k.mo k.M.L t,(q6 outs k.j k.M.bl).2.1⟩⟩,0):=by
  unfold g6;rw[if_neg (by simpa using hc),if_neg (by simpa using hm)]
 obtain⟨R,hR⟩:∃R,R=q6 outs k.j k.M.bl:=⟨_,rfl⟩
 rw[←hR]at hkk
 have hef:zU outs=.sl .no (outs.map jZ):=rfl
 rw[hef]
 simp (disch:=omega) [zz,hm]
 refine AT.loop' (α:=Nat × JV × BlL × Bool) (fun x=>St.of [(0,.av .ptr (.ptr K KpT [])),(4,.loc 4 []),(7,.av .str (.s (zL2 t))),(29,.av (.slice 36) (.sl .no (outs.map jZ))),(30,.av (.int .i64) (.i .i64 outs.length)),(31,.av (.int .i64) (.i .i64 x.1))] [(4,(TrT,qK t))] (fun _=>0) (kpH K B M { a with o:=x.2.2.2 } ⟨x.2.1,k.mo,⟨k.M.L,x.2.2.1⟩⟩))
  (fun x=>x.1≤outs.length∧q6 (outs.drop x.1) x.2.1 x.2.2.1=R∧zJu k.mo (N+wtO (outs.take x.1)) ⟨k.M.L,x.2.2.1⟩∧g8 (N+wtO (outs.take x.1)) x.2.1.d) (fun x=>outs.length-x.1) (0,k.j,k.M.bl,a.o) ?_ ?_ ?_
 ·apply Le.of<;>simp[qU,qG,qO,qH,qP,qK,qF,qI,qJ,qN,]<;>try omega
 ·exact⟨by simp,by simpa using hR.symm,by simpa[wtO]using hI.mem,by simpa[wtO]using hI.of⟩
 rintro⟨i,j,bl,o⟩ ⟨hi,hko,hM,hD⟩ KL hN' hE
 simp only at hi hko hM hD hN'
 refine qM (cf:=zSN) laid mixed _ _ _ (by kernel_rfl) ?_
 have hg:=zJU K B M { a with o:=o } ⟨j,k.mo,⟨k.M.L,bl⟩⟩
 by_cases hlt:i<outs.length
 ·have hlt':(i:Int)<outs.length:=by omega
  have hlt2:i<t.outs.length:=by rw[hm];simpa using hlt
  have hgf:=zK1 outs i hlt
  have hgm:=zMO t.outs i hlt2
  have htm:t.outs[i]=zJF outs[i]:=by simp only[hm,List.getElem_map]
  rw[htm]at hgm
  have hwt:=zRe outs i hlt
  have hwl:=zQf outs (i+1)
  have hdl:=hod _ (List.getElem_mem hlt)
  have hdr:outs.drop i=outs[i]::outs.drop (i+1):=List.drop_eq_getElem_cons hlt
  obtain⟨f,hf⟩:∃f,f=outs[i]:=⟨_,rfl⟩
  rw[←hf]at hgf hgm hwt hdl hdr
  obtain⟨fp,fd⟩:=f
  simp only at hwt hdl
  rw[hdr,q6]at hko
  simp only at hko
  simp (disch:=omega) [zz,hlt',hgf,hgm,jZ,qK,qJ,qN,zJF,hg]
  (repeat with_reducible refine om ?_)
  refine UL (stB a.S a.T bl) ((K,kpO { a with o:=o })::(jH a.J B M o j++DbH a.D a.E k.mo a.cs)) (zNo K B M { a with o:=o } ⟨j,k.mo,⟨k.M.L,bl⟩⟩) (zNP a.S a.T hne.TS bl (sha fd)) rfl rfl (by simp) (by simp[qS,TV.er,AV.er]) ?_
  by_cases hh:zJl (sha fd) bl=true
  ·rw[if_pos hh]at hko
   simp (disch:=omega) [zz,hh]
   (repeat with_reducible refine om ?_)
   refine hN' _ (i+1,j,bl,o) ?_ ⟨by simp only;omega,hko,by simp only;rw[hwt];exact hM.up (by omega),by simp only;rw[hwt];exact hD.up (by omega)⟩ (by simp only;omega)
   apply Le.of<;>simp[qU,qG,qO,qH,qP,qK,qF,qI,qJ,qN,]<;>try omega
  ·have hh':zJl (sha fd) bl=false:=by simpa using hh
   rw[if_neg hh]at hko
   have hrw:=zRl fd hdl
   have hbw:wtB fd=12+(zJf fd).length:=rfl
   have hdm:=hD.m
   simp (disch:=omega) [zz,hh',hg]
   (repeat with_reducible refine om ?_)
   refine jW.of [0,1,2,3,4,5,6,7,8,9] [] (by kernel_rfl) ?_
   simp (disch:=omega) [zz,hg]
   (repeat with_reducible refine om ?_)
   refine jC hrw rfl rfl (by simp) (by simp[qS,coC,TV.er,AV.er,AV.ers,Tok.k]) ?_
   simp (disch:=omega) [zz]
   (repeat with_reducible refine om ?_)
   refine zNU K B M { a with o:=o } ⟨j,k.mo,⟨k.M.L,bl⟩⟩ [] (by simp) (zPd a.J B M ⟨hne.MB,hne.JB,hne.JM⟩ (zJf fd) o j hD.ok (by omega)) (by simp) (by simp[qQ]) (by simp[qS,TV.er,AV.er]) fun o1=>?_
   have hD2:=hD.addJ (zJf fd)
   obtain⟨j2,e2⟩:∃j2,j2=(addJ (zJf fd) j).1:=⟨_,rfl⟩
   rw[←e2]at hko hD2 ⊢
   have hk2:zJL { a with o:=o1 } ⟨j2,k.mo,⟨k.M.L,bl⟩⟩:=⟨hk.cels,hk.abs⟩
   by_cases he:(addJ (zJf fd) j).2=0
   ·rw[if_pos he]at hko
    have hg2:=zJU K B M { a with o:=o1 } ⟨j2,k.mo,⟨k.M.L,bl⟩⟩
    have hsz:szB bl≤1000000000000:=by
     have:=zN7 bl
     have:=hM.le
     simp only at this
     omega
    simp (disch:=omega) [zz,he,hg2]
    refine jW.of [0,1,2,3,4,5,6] [] (by kernel_rfl) ?_
    simp (disch:=omega) [zz,hg2]
    (repeat with_reducible refine om ?_)
    refine zM6 K B M { a with o:=o1 } ⟨j2,k.mo,⟨k.M.L,bl⟩⟩ [] (by simp) (zNY a.S a.T hne.TS bl hsz fd hdl) (by simp) (by simp[qQ]) (by simp[qS,TV.er,AV.er]) ?_
    simp (disch:=omega) [zz]
    refine hN' _ (i+1,j2,zJm (sha fd) fd bl,o1) ?_ ⟨by simp only;omega,hko,by simp only;rw[hwt];exact(hM.put fd).up (by omega),by simp only;rw[hwt];exact hD2.up (by omega)⟩ (by simp only;omega)
    apply Le.of<;>simp[qU,qG,qO,qH,qP,qK,qF,qI,qJ,qN,]<;>try omega
   ·rw[if_neg he]at hko
    rw[←hko]at hkk
    rw[if_pos (by simpa using he)]at hkk
    simp (disch:=omega) [zz,he]
    refine hE _ _ (by simp) ?_
    simp (disch:=omega) [zz,hkk,Tryz.f16,u4 hk2,KpR.of hk2]
 ·have hlt':¬(i:Int)<outs.length:=by omega
  have hd0:outs.drop i=[]:=List.drop_of_length_le (by omega)
  rw[hd0,q6]at hko
  rw[←hko]at hkk
  rw[if_neg (by simp)]at hkk
  simp only at hkk
  have hrw:=zRY t hd
  have hwt:wtT t=12+(zJG t).length:=rfl
  have hwl:=zQf outs i
  have hdm:=hD.m
  simp (disch:=omega) [zz,hlt']
  refine hE _ _ (by simp) ?_
  simp (disch:=omega) [zz,hg]
  refine jW.of [0,1,2,3,4,5,6,7,8] [] (by kernel_rfl) ?_
  simp (disch:=omega) [zz,hg]
  (repeat with_reducible refine om ?_)
  refine jC hrw rfl rfl (by simp) (by simp[qS,coC,TV.er,AV.er,AV.ers,Tok.k]) ?_
  simp (disch:=omega) [zz]
  (repeat with_reducible refine om ?_)
  refine zNU K B M { a with o:=o } ⟨j,k.mo,⟨k.M.L,bl⟩⟩ [] (by simp) (zPd a.J B M ⟨hne.MB,hne.JB,hne.JM⟩ (zJG t) o j hD.ok (by omega)) (by simp) (by simp[qQ]) (by simp[qS,TV.er,AV.er]) fun o1=>?_
  obtain⟨j2,e2⟩:∃j2,j2=(addJ (zJG t) j).1:=⟨_,rfl⟩
  rw[←e2]at hkk ⊢
  have hk2:zJL { a with o:=o1 } ⟨j2,k.mo,⟨k.M.L,bl⟩⟩:=⟨hk.cels,hk.abs⟩
  by_cases he:(addJ (zJG t) j).2=0
  ·rw[if_neg (by simpa using he)]at hkk
   have hg2:=zJU K B M { a with o:=o1 } ⟨j2,k.mo,⟨k.M.L,bl⟩⟩
   have hda:=zNv t ht.1 k.mo hI.lo hI.hi a.D a.E a.cs hk.cels
   rw[hk.abs,hc]at hda
   simp (disch:=omega) [zz,he,hg2]
   refine jW.of [0,1,2,3,4,5,6] [] (by kernel_rfl) ?_
   simp (disch:=omega) [zz,hg2]
   (repeat with_reducible refine om ?_)
   refine zMU K B M { a with o:=o1 } ⟨j2,k.mo,⟨k.M.L,bl⟩⟩ hk2 [] (by simp) hda (by simp) (by simp[qQ]) (by simp[qS,TV.er,AV.er,hte]) fun cs' hk3=>?_
   simp (disch:=omega) [zz,hkk,Tryz.f16,u4 hk3,KpR.of hk3]
  ·rw[if_pos (by simpa using he)]at hkk
   simp (disch:=omega) [zz,he,hkk,Tryz.f16,u4 hk2,KpR.of hk2]
end Go.Proofs.YtcioeonlclpacaaGreatDoor
end
