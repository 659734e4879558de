/- A box goes on. No condition. -/
import Derived.Test.YtdkieabmeiojjaaGreatDoorBX2ToBL0
set_option linter.unusedSimpArgs false
set_option linter.unusedVariables false
set_option linter.unusedSectionVars false
set_option maxHeartbeats 64000000
set_option maxRecDepth 100000
namespace Go.Proofs.YtdkieabmeiojjaaGreatDoor
open Go Go.Ab
open Classical
section
variable [Sel] [SelPow] [SelMax]
def zW (bo bi ba:Nat):AV:=.fn 112 [.ptr bo TsT [],.ptr bi TsT [],.ptr ba TsT []]
noncomputable def kM (cap:Nat) (l:List KH) (j:List AV):HObj:=.var (.arr cap 97) (.agg (l.map qX++j))
def cO (l:List KH) (rd:AV) (RD:q8):Prop :=
 (l=[]/\rd=.nsl/\RD=[])\/(∃T cap j,JK j/\rd=.msl T 97 0 l.length cap/\l.length+j.length=cap/\RD=[(T,kM cap l j)])
theorem vW (l:List KH):AV.erks (l.map qX)=l.map qX:=by
 rw[AV.erks_eq,List.map_map]
 refine List.map_congr_left fun x _=>?_
 exact k8 _ (C0 x)
theorem cO.er {l:List KH} {rd:AV} {RD:q8} (h:cO l rd RD):RD.er=RD/\rd.erk=rd:=by
 rcases h with⟨_,rfl,rfl⟩|⟨T,cap,j,hj,rfl,_,rfl⟩
 ·exact⟨rfl,rfl⟩
 ·refine⟨?_,rfl⟩
  simp only[q8.er_cons,q8.er_nil,kM,HObj.er_var,AV.erk,U5,vW]
  rw[show AV.erks j=j from hj]
structure JF where
 R:Nat
 HR:q8
 W:Nat
 bo:Nat
 bi:Nat
 ba:Nat
 ins:List Txt
 ask:List Txt
 rd:AV
 RD:q8
noncomputable def JF.M (q:JF) (b:zJ):q8:=WK q.bo q.bi q.ba b.outs q.ins q.ask++q.RD
noncomputable def JF.core (q:JF) (B:Nat) (b:zJ):q8:=(B,zF q.R b.outs (zW q.bo q.bi q.ba) q.W q.rd b.asks b.over b.why)::(q.W,wrO b.wrote)::(q.M b++q.HR)
structure JF.OK (q:JF) (b:zJ):Prop where
 run:qQ q.R b.run q.HR
 reads:cO b.reads q.rd q.RD
 may:b.may=zap b.outs q.ins q.ask
 mb:zpm b.outs q.ins q.ask
def ZY (B:Nat) (b:zJ) (H:q8):Prop:=∃q:JF,q.OK b/\H=q.core B b
theorem JF.OK.er {q:JF} {b:zJ} (h:q.OK b) (B:Nat):(q.core B b).er=q.core B b/\(q.M b).er=q.M b/\q.HR.er=q.HR/\q.rd.erk=q.rd:=by
 obtain⟨h1,h2⟩:=h.reads.er
 have h3:=h.run.er
 have h4:(q.M b).er=q.M b:=by simp only[JF.M,q8.er_app,gK,h1]
 refine⟨?_,h4,h3,h2⟩
 simp only[JF.core,q8.er_cons,q8.er_app,h3,h4,JO,J2 (mf:=zW q.bo q.bi q.ba) rfl h2]
theorem ziv (b:zJ) (d:DoV) (r':qG) (h:kN b.run=(d,r')):roundB b =
  if d.kind=1 then(if b.may d.path=true then({ b with run:=r',asks:=d.path },true) else(y8 13 { b with run:=r' },false))
  else if d.kind=2 then(KI d.path d.data { b with run:=r' },false)
  else if d.kind=3 then(if GC b=true then(y8 14 { b with run:=r' },false) else({ b with run:=r',over:=true },false))
  else(y8 d.why { b with run:=r' },false):=by
 unfold roundB
 rw[h]
abbrev zoP:Cfg:=⟨fun n=>n==1,fun _=>false⟩
theorem Y2 (B:Nat) {b bf:zJ} {H:q8} (hH:ZY B b H) (hg:QE b) (n:Nat) (hn:goN n b=some bf) :
  q7 Tryz.prog 72 [.av .ptr (.ptr B UN [])] H fun y H'=>y=.tup []/\ZY B bf H':=by
 refine q7.sub (R:=fun y H'=>y=.tup []/\∃H2,Ab.HSub H2 H'/\ZY B bf H2) ?_ fun y H' ⟨h1,H2,h2,h3⟩ _=>⟨H2,h2,h1,h3⟩
 refine zov Tryz.func72 zoP fun imm0 w0=>?_
 simp (disch:=omega) [zz]
 intro b1 m1
 refine AT.loop' (α:=Nat × zJ × q8) (fun x=>St.of [(1,.av .ptr (.ptr b1 .ptr []))] [] (fun _=>0) ((b1,yL B)::x.2.2))
  (fun x=>goN x.1 x.2.1=some bf/\QE x.2.1/\ZY B x.2.1 x.2.2) (fun x=>x.1) (n,b,H) ?_ ?_ ?_
 ·apply Le.of<;>simp[zR,qI,yL]
 ·exact⟨hn,hg,hH⟩
 clear hn hg hH m1 b
 rintro⟨n,b,H1⟩ ⟨hn,hg,hq0⟩ KL hN hE
 simp only at hn hg hq0 hN |-
 obtain⟨q,hq,rfl⟩:=hq0
 cases n with
 | zero=>cases hn
 | succ n =>
 rw[goN]at hn
 obtain⟨hce,hMe,hHe,hre⟩:=hq.er B
 refine znG fun hnd=>?_
 simp[JF.core,q8.keys]at hnd
 obtain⟨⟨n1,n2,n3⟩,⟨n4,n5⟩,n6,n7⟩:=hnd
 have sy:∀ {a b:Nat},¬a=b->¬b=a:=fun h e=>h e.symm
 have n1':=sy n1;have n2':=sy n2;have n4':=sy n4
 by_cases ho:b.over=true
 ·rw[if_pos ho]at hn
  have hbf:=Option.some.inj hn
  subst hbf
  have hcc:q.core B b=(B,zF q.R b.outs (zW q.bo q.bi q.ba) q.W q.rd b.asks b.over b.why)::(q.W,wrO b.wrote)::(q.M b++q.HR):=rfl
  obtain⟨M,hM⟩:∃M:q8,M=(q.W,wrO b.wrote)::(q.M b++q.HR):=⟨_,rfl⟩
  rw[<-hM]at hcc
  have hMM:M.er=M:=by
   rw[hM];simp only[q8.er_cons,q8.er_app,hMe,hHe,JO]
  rw[hcc]
  refine zrd zoP ?_
  simp (disch:=omega) [zz,yL,zF,n1,n1',ho]
  refine hE _ _ (by simp) ?_
  simp (disch:=omega) [zz,hMM,hre,zW,Tryz.f72]
  refine⟨q.core B b,?_,q,hq,rfl⟩
  rw[hcc]
  simp only[zF,ho,zW]
  exact HSub.of_sub ((List.Sublist.refl _).cons _)
 rw[if_neg ho]at hn
 have ho':b.over=false:=by simpa using ho
 obtain⟨⟨d,r'⟩,hdr⟩:∃x,kN b.run=x:=⟨_,rfl⟩
 have hnx:=znm q.R hq.run hg.good
 have hrd:=hg.round
 have hgr:=hg.roundB
 rw[hdr]at hnx hrd
 simp only at hnx hrd
 have hrb:=ziv b d r' hdr
 obtain⟨M,hM⟩:∃M,M=q.M b:=⟨_,rfl⟩
 have hcc:q.core B b=(B,zF q.R b.outs (zW q.bo q.bi q.ba) q.W q.rd b.asks b.over b.why)::(q.W,wrO b.wrote)::(M++q.HR):=by rw[hM];rfl
 rw[hcc]
 rw[<-hM]at hMe
 refine zrd zoP ?_
 simp (disch:=omega) [zz,yL,zF,n1,n1',ho']
 refine qD (R:=fun y H'=>y=.av DoT (jA d)/\qQ q.R r' H') q.HR ((b1,yL B)::(B,zF q.R b.outs (zW q.bo q.bi q.ba) q.W q.rd b.asks b.over b.why)::(q.W,wrO b.wrote)::M) ?_ rfl (by simp[qE]) (by simp) ?_ ?_
 ·refine List.perm_iff_count.2 fun a=>?_
  simp only[yL,zF,ho',List.count_append,List.count_cons];omega
 ·rw[hHe]
  simpa[TV.er,AV.er]using hnx
 rintro y H' ⟨rfl,hrun'⟩ _
 refine⟨(b1,yL B)::(B,zF q.R b.outs (zW q.bo q.bi q.ba) q.W q.rd b.asks b.over b.why)::(q.W,wrO b.wrote)::(M++H'),HSub.of_perm ?_,?_⟩
 ·refine List.perm_iff_count.2 fun a=>?_
  simp only[List.count_append,List.count_cons];omega
 obtain⟨q',hq'⟩:∃q':JF,q'={ q with HR:=H' }:=⟨_,rfl⟩
 have hqa:∀p,q'.OK { b with run:=r',asks:=p }:=fun p=>by
  rw[hq'];exact⟨hrun',hq.reads,hq.may,hq.mb⟩
 have hca:∀p,q'.core B { b with run:=r',asks:=p }=(B,zF q.R b.outs (zW q.bo q.bi q.ba) q.W q.rd p b.over b.why)::(q.W,wrO b.wrote)::(M++H'):=fun p=>by
  rw[hq',hM];rfl
 have hqf:∀e,q'.OK (y8 e { b with run:=r' }):=fun e=>by
  rw[hq'];exact⟨hrun',hq.reads,hq.may,hq.mb⟩
 have hcf:∀e,q'.core B (y8 e { b with run:=r' })=(B,zF q.R b.outs (zW q.bo q.bi q.ba) q.W q.rd b.asks true e)::(q.W,wrO b.wrote)::(M++H'):=fun e=>by
  rw[hq',hM];rfl
 have hqo:q'.OK { b with run:=r',over:=true }:=by
  rw[hq'];exact⟨hrun',hq.reads,hq.may,hq.mb⟩
 have hco:q'.core B { b with run:=r',over:=true }=(B,zF q.R b.outs (zW q.bo q.bi q.ba) q.W q.rd b.asks true b.why)::(q.W,wrO b.wrote)::(M++H'):=by
  rw[hq',hM];rfl
 have hHe':=hrun'.er
 by_cases h1:d.kind=1
 ·-- it asks
  have hpl:=hrd.2 h1
  have hmay:=zf2 q.bo q.bi q.ba b.outs q.ins q.ask hq.mb d.path (by omega)
  rw[<-hq.may]at hmay
  obtain⟨m,hm⟩:∃m,m=b.may d.path:=⟨_,rfl⟩
  rw[<-hm]at hmay
  have hMH:M=WK q.bo q.bi q.ba b.outs q.ins q.ask++q.RD:=hM
  simp (disch:=omega) [zz,yL,zF,jA,h1,n1,n1',zW]
  (repeat with_reducible refine om ?_)
  refine vK (r:=.av .bool (.b m)) (bs:=[.av .str (.s d.path),.av .ptr (.ptr q.bo TsT []),.av .ptr (.ptr q.bi TsT []),.av .ptr (.ptr q.ba TsT [])]) (WK q.bo q.bi q.ba b.outs q.ins q.ask) ((b1,yL B)::(B,zF q.R b.outs (zW q.bo q.bi q.ba) q.W q.rd b.asks b.over b.why)::(q.W,wrO b.wrote)::(q.RD++H')) ?_ (by rw[gK];exact hmay) rfl (by simp[qE]) (by simp) (by simp[qR,TV.er,AV.er]) ?_
  ·rw[hMH]
   refine List.perm_iff_count.2 fun a=>?_
   simp only[yL,zF,zW,ho',List.count_append,List.count_cons];omega
  cases m with
  | true =>
   have e:roundB b=({ b with run:=r',asks:=d.path },true):=by rw[hrb,if_pos h1,if_pos hm.symm]
   rw[e]at hn
   simp only[if_true]at hn
   have hbf:=Option.some.inj hn
   subst hbf
   simp (disch:=omega) [zz,yL,zF,h1,n1,n1',zW]
   refine hE _ _ (by simp) ?_
   simp (disch:=omega) [zz,hre,hMe,hHe',JO,Tryz.f72]
   refine⟨q'.core B { b with run:=r',asks:=d.path },?_,q',hqa _,rfl⟩
   rw[hca]
   simp only[zF,zW,ho']
   exact HSub.of_sub ((List.Sublist.refl _).cons _)
  | false =>
   have e:roundB b=(y8 13 { b with run:=r' },false):=by rw[hrb,if_pos h1,if_neg (by rw[<-hm];decide)]
   rw[e]at hn hgr
   simp only[Bool.false_eq_true,if_false]at hn hgr
   simp (disch:=omega) [zz,yL,zF,h1,n1,n1',zW]
   refine qD (R:=fun r H'=>r=.tup []/\H'=[(B,zF q.R b.outs (zW q.bo q.bi q.ba) q.W q.rd b.asks true 13)]) [(B,zF q.R b.outs (zW q.bo q.bi q.ba) q.W q.rd b.asks b.over b.why)] ((b1,yL B)::(q.W,wrO b.wrote)::(M++H')) ?_ rfl (by simp[qE]) (by simp) ?_ ?_
   ·refine List.perm_iff_count.2 fun a=>?_
    simp only[yL,zF,zW,ho',List.count_append,List.count_cons,List.count_nil];omega
   ·rw[q8.er_cons,J2 rfl hre]
    refine q7.args (VM B (13) q.R b.outs (zW q.bo q.bi q.ba) q.W q.rd b.asks b.over b.why rfl hre) (by simp[qR,coC,TV.er,AV.er])
   rintro r H9 ⟨rfl,rfl⟩ _
   refine⟨(b1,yL B)::(B,zF q.R b.outs (zW q.bo q.bi q.ba) q.W q.rd b.asks true 13)::(q.W,wrO b.wrote)::(M++H'),HSub.of_perm (List.Perm.swap _ _ _),?_⟩
   simp (disch:=omega) [zz]
   refine hN _ (n,y8 (13) { b with run:=r' },q'.core B (y8 (13) { b with run:=r' })) ?_ ⟨hn,hgr,q',hqf _,rfl⟩ (by simp only;omega)
   rw[hcf]
   refine Le.ofP ?_ ?_ ?_ ?_ (HSub.refl _)<;>simp[zR,qI]
 by_cases h2:d.kind=2
 ·-- it writes
  have hwo:=zjF B d.path d.data q.R b.outs hq.mb.o (zW q.bo q.bi q.ba) q.W q.rd b.asks b.over b.why b.wrote rfl hre
  have hw:roundB b=(KI d.path d.data { b with run:=r' },false):=by rw[hrb,if_neg h1,if_pos h2]
  rw[hw]at hn hgr
  simp only[Bool.false_eq_true,if_false]at hn hgr
  simp (disch:=omega) [zz,yL,zF,jA,h1,h2,n1,n1']
  refine qD (R:=fun r H9=>r=.tup []/\H9=(if d.path∈b.wrote.map (·.1)\/d.path∉b.outs then [(B,zF q.R b.outs (zW q.bo q.bi q.ba) q.W q.rd b.asks true 14),(q.W,wrO b.wrote)] else [(B,zF q.R b.outs (zW q.bo q.bi q.ba) q.W q.rd b.asks b.over b.why),(q.W,wrO (b.wrote++[(d.path,d.data)]))])) [(B,zF q.R b.outs (zW q.bo q.bi q.ba) q.W q.rd b.asks b.over b.why),(q.W,wrO b.wrote)] ((b1,yL B)::(M++H')) ?_ rfl (by simp[qE]) (by simp) ?_ ?_
  ·refine List.perm_iff_count.2 fun a=>?_
   simp only[yL,zF,zW,ho',List.count_append,List.count_cons,List.count_nil];omega
  ·rw[q8.er_cons,q8.er_cons,J2 rfl hre,JO]
   refine q7.args hwo (by simp[qR,coC,TV.er,AV.er])
  rintro r H9 ⟨rfl,rfl⟩ _
  by_cases hb:d.path∈b.wrote.map (·.1)\/d.path∉b.outs
  ·have e:KI d.path d.data { b with run:=r' }=y8 14 { b with run:=r' }:=by unfold KI;exact if_pos hb
   rw[e]at hn hgr
   rw[if_pos hb]
   refine⟨(b1,yL B)::(B,zF q.R b.outs (zW q.bo q.bi q.ba) q.W q.rd b.asks true 14)::(q.W,wrO b.wrote)::(M++H'),HSub.of_perm ?_,?_⟩
   ·refine List.perm_iff_count.2 fun a=>?_
    simp only[List.count_append,List.count_cons,List.count_nil];omega
   simp (disch:=omega) [zz]
   refine hN _ (n,y8 14 { b with run:=r' },q'.core B (y8 14 { b with run:=r' })) ?_ ⟨hn,hgr,q',hqf _,rfl⟩ (by simp only;omega)
   rw[hcf]
   refine Le.ofP ?_ ?_ ?_ ?_ (HSub.refl _)<;>simp[zR,qI]
  ·have e:KI d.path d.data { b with run:=r' }={ b with run:=r',wrote:=b.wrote++[(d.path,d.data)] }:=by unfold KI;exact if_neg hb
   rw[e]at hn hgr
   rw[if_neg hb]
   refine⟨(b1,yL B)::(B,zF q.R b.outs (zW q.bo q.bi q.ba) q.W q.rd b.asks b.over b.why)::(q.W,wrO (b.wrote++[(d.path,d.data)]))::(M++H'),HSub.of_perm ?_,?_⟩
   ·refine List.perm_iff_count.2 fun a=>?_
    simp only[List.count_append,List.count_cons,List.count_nil];omega
   simp (disch:=omega) [zz]
   refine hN _ (n,{ b with run:=r',wrote:=b.wrote++[(d.path,d.data)] },q'.core B { b with run:=r',wrote:=b.wrote++[(d.path,d.data)] }) ?_ ⟨hn,hgr,q',?_,rfl⟩ (by simp only;omega)
   ·rw[show q'.core B { b with run:=r',wrote:=b.wrote++[(d.path,d.data)] }=(B,zF q.R b.outs (zW q.bo q.bi q.ba) q.W q.rd b.asks b.over b.why)::(q.W,wrO (b.wrote++[(d.path,d.data)]))::(M++H') by rw[hq',hM];rfl]
    refine Le.ofP ?_ ?_ ?_ ?_ (HSub.refl _)<;>simp[zR,qI]
   ·rw[hq'];exact⟨hrun',hq.reads,hq.may,hq.mb⟩
 by_cases h3:d.kind=3
 ·-- it has ended
  obtain⟨lk,hlk⟩:∃lk,lk=GC b:=⟨_,rfl⟩
  have hany:=U2 (fun x=>decide (x∉b.wrote.map (·.1))) (.fn 117 [.ptr b1 .ptr []]) [(b1,yL B),(B,zF q.R b.outs (zW q.bo q.bi q.ba) q.W q.rd b.asks true b.why),(q.W,wrO b.wrote)] b.outs
   ⟨by simp only[q8.er_cons,q8.er_nil,J2 (mf:=zW q.bo q.bi q.ba) rfl hre,JO];rfl,rfl,fun x hx=>⟨_,rfl,by simp,by simpa[TV.er,AV.er]using zhr b1 B x q.R b.outs (zW q.bo q.bi q.ba) q.W q.rd b.asks true b.why b.wrote rfl hre⟩⟩ (by have:=hq.mb.o;omega)
  have hlq:b.outs.any (fun x=>decide (x∉b.wrote.map (·.1)))=lk:=by rw[hlk];rfl
  rw[hlq]at hany
  have he3:q8.er [(b1,yL B),(B,zF q.R b.outs (zW q.bo q.bi q.ba) q.W q.rd b.asks true b.why),(q.W,wrO b.wrote)]=[(b1,yL B),(B,zF q.R b.outs (zW q.bo q.bi q.ba) q.W q.rd b.asks true b.why),(q.W,wrO b.wrote)]:=by
   simp only[q8.er_cons,q8.er_nil,J2 (mf:=zW q.bo q.bi q.ba) rfl hre,JO];rfl
  simp (disch:=omega) [zz,yL,zF,jA,h1,h2,h3,n1,n1']
  refine qD (R:=fun r H9=>r=.av .bool (.b lk)/\H9=[(b1,yL B),(B,zF q.R b.outs (zW q.bo q.bi q.ba) q.W q.rd b.asks true b.why),(q.W,wrO b.wrote)]) [(b1,yL B),(B,zF q.R b.outs (zW q.bo q.bi q.ba) q.W q.rd b.asks true b.why),(q.W,wrO b.wrote)] (M++H') ?_ rfl (by simp[qE]) (by simp) ?_ ?_
  ·simp only[yL,zF,List.cons_append,List.nil_append];exact List.Perm.refl _
  ·rw[he3]
   simpa[TV.er,AV.er]using hany
  rintro r H9 ⟨rfl,rfl⟩ _
  refine⟨_,HSub.refl _,?_⟩
  cases lk with
  | true =>
   have e:roundB b=(y8 14 { b with run:=r' },false):=by rw[hrb,if_neg h1,if_neg h2,if_pos h3,if_pos hlk.symm]
   rw[e]at hn hgr
   simp only[Bool.false_eq_true,if_false]at hn hgr
   simp (disch:=omega) [zz,yL,zF,n1,n1']
   refine qD (R:=fun r H'=>r=.tup []/\H'=[(B,zF q.R b.outs (zW q.bo q.bi q.ba) q.W q.rd b.asks true 14)]) [(B,zF q.R b.outs (zW q.bo q.bi q.ba) q.W q.rd b.asks true b.why)] ((b1,yL B)::(q.W,wrO b.wrote)::(M++H')) ?_ rfl (by simp[qE]) (by simp) ?_ ?_
   ·refine List.perm_iff_count.2 fun a=>?_
    simp only[yL,zF,zW,ho',List.count_append,List.count_cons,List.count_nil];omega
   ·rw[q8.er_cons,J2 rfl hre]
    refine q7.args (VM B (14) q.R b.outs (zW q.bo q.bi q.ba) q.W q.rd b.asks true b.why rfl hre) (by simp[qR,coC,TV.er,AV.er])
   rintro r H9 ⟨rfl,rfl⟩ _
   refine⟨(b1,yL B)::(B,zF q.R b.outs (zW q.bo q.bi q.ba) q.W q.rd b.asks true 14)::(q.W,wrO b.wrote)::(M++H'),HSub.of_perm (List.Perm.swap _ _ _),?_⟩
   simp (disch:=omega) [zz]
   refine hN _ (n,y8 (14) { b with run:=r' },q'.core B (y8 (14) { b with run:=r' })) ?_ ⟨hn,hgr,q',hqf _,rfl⟩ (by simp only;omega)
   rw[hcf]
   refine Le.ofP ?_ ?_ ?_ ?_ (HSub.refl _)<;>simp[zR,qI]
  | false =>
   have e:roundB b=({ b with run:=r',over:=true },false):=by rw[hrb,if_neg h1,if_neg h2,if_pos h3,if_neg (by rw[<-hlk];decide)]
   rw[e]at hn hgr
   simp only[Bool.false_eq_true,if_false]at hn hgr
   simp (disch:=omega) [zz,yL,zF,n1,n1']
   refine hN _ (n,{ b with run:=r',over:=true },q'.core B { b with run:=r',over:=true }) ?_ ⟨hn,hgr,q',hqo,rfl⟩ (by simp only;omega)
   rw[hco]
   refine Le.ofP ?_ ?_ ?_ ?_ (HSub.refl _)<;>simp[zR,qI,yL,zF]
 ·-- it has failed
  have e:roundB b=(y8 d.why { b with run:=r' },false):=by rw[hrb,if_neg h1,if_neg h2,if_neg h3]
  rw[e]at hn hgr
  simp only[Bool.false_eq_true,if_false]at hn hgr
  simp (disch:=omega) [zz,yL,zF,jA,h1,h2,h3,n1,n1']
  refine qD (R:=fun r H'=>r=.tup []/\H'=[(B,zF q.R b.outs (zW q.bo q.bi q.ba) q.W q.rd b.asks true d.why)]) [(B,zF q.R b.outs (zW q.bo q.bi q.ba) q.W q.rd b.asks b.over b.why)] ((b1,yL B)::(q.W,wrO b.wrote)::(M++H')) ?_ rfl (by simp[qE]) (by simp) ?_ ?_
  ·refine List.perm_iff_count.2 fun a=>?_
   simp only[yL,zF,zW,ho',List.count_append,List.count_cons,List.count_nil];omega
  ·rw[q8.er_cons,J2 rfl hre]
   refine q7.args (VM B (d.why) q.R b.outs (zW q.bo q.bi q.ba) q.W q.rd b.asks b.over b.why rfl hre) (by simp[qR,coC,TV.er,AV.er])
  rintro r H9 ⟨rfl,rfl⟩ _
  refine⟨(b1,yL B)::(B,zF q.R b.outs (zW q.bo q.bi q.ba) q.W q.rd b.asks true d.why)::(q.W,wrO b.wrote)::(M++H'),HSub.of_perm (List.Perm.swap _ _ _),?_⟩
  simp (disch:=omega) [zz]
  refine hN _ (n,y8 (d.why) { b with run:=r' },q'.core B (y8 (d.why) { b with run:=r' })) ?_ ⟨hn,hgr,q',hqf _,rfl⟩ (by simp only;omega)
  rw[hcf]
  refine Le.ofP ?_ ?_ ?_ ?_ (HSub.refl _)<;>simp[zR,qI]
abbrev zl3:TyD:=.struct [46,9,47,35,35,35]
structure QT where
 pkg:Txt
 name:Txt
 tool:Txt
 env:List (Txt × Txt)
 ins:List Txt
 asks:List Txt
 outs:List Txt
def wW (a:QT):AV:=.agg [.agg [.s a.pkg,.s a.name],.s a.tool,zO a.env,.sl .no (strs a.ins),.sl .no (strs a.asks),.sl .no (strs a.outs)]
@[simp] theorem pC (a:QT):(wW a).er=wW a:=by
 simp[wW,AV.er,AV.ers,vS,strs,AV.ers_eq,Function.comp_def]
abbrev zpw:Cfg:=⟨fun _=>false,fun n=>n==3000001⟩
theorem zis (a:QT) (h1:a.ins.length<=1000000) (h2:a.asks.length<=1000000) (h3:a.outs.length<=1000000) :
  q7 Tryz.prog 71 [.av zl3 (wW a)] [] fun r H'=>∃bo bi ba,r=.av .func (zW bo bi ba)/\H'=WK bo bi ba a.outs a.ins a.asks:=by
 refine q7.sub (R:=fun r H'=>∃bo bi ba,r=.av .func (zW bo bi ba)/\∃H2,Ab.HSub H2 H'/\H2=WK bo bi ba a.outs a.ins a.asks) ?_ fun r H' ⟨bo,bi,ba,h1,H2,h2,h3⟩ _=>⟨H2,h2,bo,bi,ba,h1,h3⟩
 refine zov Tryz.func71 zpw fun imm0 w0=>?_
 simp (disch:=omega) [zz,wW]
 (repeat with_reducible refine om ?_)
 refine kP (xO a.ins h1) rfl rfl (by simp) (by simp[qR,TV.er,AV.er]) ?_
 simp (disch:=omega) [zz]
 (repeat with_reducible refine om ?_)
 refine kP (xO a.asks h2) rfl rfl (by simp) (by simp[qR,TV.er,AV.er]) ?_
 simp (disch:=omega) [zz]
 (repeat with_reducible refine om ?_)
 refine kP (xO a.outs h3) rfl rfl (by simp) (by simp[qR,TV.er,AV.er]) ?_
 simp (disch:=omega) [zz]
 (repeat with_reducible refine om ?_)
 intro bi ba nba bo nbo1 nbo2
 simp (disch:=omega) [zz,zW,WK,WR,Tryz.f71]
 refine⟨bo,bi,ba,⟨rfl,rfl,rfl⟩,HSub.of_perm ?_⟩
 exact List.Perm.cons _ (List.Perm.swap _ _ _)
theorem zk3 {pr:List Nat} {P:Program} {cf:Cfg} {ops:Array Oper} {Lt:LtK} {K:St->Prop} {k m:Nat} {ra rb:List Nat} {s:St}:zaF pr P cf ops Lt K k m ra rb [] s=match ops[k]?,ops[m]? with
  | some ok,some om=>zk9 ops k m ra=true/\(zaC ops Lt pr k=true/\XN P cf s ok Lt.kb (UQ pr P cf ops Lt K ra))/\(zaC ops Lt pr m=true/\XN P cf s om Lt.kb (UQ pr P cf ops Lt K rb))
  | _,_=>False:=nr rfl
theorem ziB {pr:List Nat} {P:Program} {cf:Cfg} {ops:Array Oper} {Lt:LtK} {K:St->Prop} {k m:Nat} {ra rb:List Nat} {j:Nat} {r:List Nat} {s:St}:zaF pr P cf ops Lt K k m ra rb (j::r) s=match ops[j]? with
  | none=>False
  | some o=>pr.contains j=false/\WG ops j o s=true/\o.guard=none/\((isLt Lt.kb s o=true/\z8 P s o.op (W2 s o.dst (zaF pr P cf ops Lt K k m ra rb r)))\/zdc P s o (zaF pr P cf ops Lt K k m ra rb r)):=nr rfl
theorem DT {pr:List Nat} {P:Program} {cf:Cfg} {ops:Array Oper} {Lt:LtK} {K:St->Prop} {s:St}:UQ pr P cf ops Lt K [] s=K s:=nr rfl
theorem pG {pr:List Nat} {P:Program} {cf:Cfg} {ops:Array Oper} {Lt:LtK} {K:St->Prop} {k:Nat} {r:List Nat} {s:St}:UQ pr P cf ops Lt K (k::r) s=match ops[k]? with
  | none=>False
  | some o=>if pr.contains k=true then VS ops k r=true/\zaC ops Lt pr k=true/\XN P cf s o Lt.kb (UQ pr P cf ops Lt K r)
   else if sft cf o=true then VS ops k r=true/\zaC ops Lt pr k=true/\XN P cf s o Lt.kb (UQ pr P cf ops Lt K r)
   else if zjE cf o=true then vH ops k=true/\vcG P cf ops s o (UQ pr P cf ops Lt K r)
   else WG ops k o s=true/\o.guard=none/\Lt.l.contains k=false/\vcD P cf s o (UQ pr P cf ops Lt K r):=nr rfl
abbrev zfw:Cfg:=⟨fun n=>n==27,fun n=>n==1000001||n==2000013||n==26||n==2000027⟩
theorem V7:∀(ls:List Txt) (i:Nat) (l:List CmdV),yF i ls=.ok l->∀c∈l,∃s∈ls,ZA s=some (some c)
 | [],i,l,h,c,hc=>by cases h;cases hc
 | s::r,i,l,h,c,hc=>by
  unfold yF at h
  split at h
  ·cases h
  ·obtain⟨x,h1,h2⟩:=V7 r _ _ h c hc
   exact⟨x,List.mem_cons_of_mem _ h1,h2⟩
  ·rename_i c' hc'
   split at h
   ·rename_i l' hl'
    cases h
    rcases List.mem_cons.1 hc with rfl|hc
    ·exact⟨s,List.mem_cons_self,hc'⟩
    ·obtain⟨x,h1,h2⟩:=V7 r _ _ hl' c hc
     exact⟨x,List.mem_cons_of_mem _ h1,h2⟩
   ·cases h
theorem uJ {t:Txt} {cs:List CmdV} (h:zL t=.ok cs):t.length<=65536/\∃i,yF i (qU t)=.ok cs:=by
 unfold zL at h
 split at h
 ·cases h
 ·rename_i hn
  split at h
  ·rename_i l hl
   cases h
   exact⟨by omega,0,hl⟩
  ·cases h
theorem zfe {t:Txt} {cs:List CmdV} (h:zL t=.ok cs) {env:List (Txt × Txt)} (h1:env.length<=1000000000) (h2:∀x∈env,x.2.length<=1000000000000000):kK (WF env cs)/\QG (WF env cs):=by
 obtain⟨ht,i,hc⟩:=uJ h
 have hl:=Q8 h
 have hk:∀x∈(WF env cs).todo,okt x/\znc x:=by
  intro x hx
  obtain⟨c,hcm,rfl⟩:=List.mem_map.1 hx
  obtain⟨s,hs,hr⟩:=V7 _ _ _ hc c (List.mem_reverse.1 hcm)
  have hsl:=W8 hs
  obtain⟨g1,g2,g3,g4,g5⟩:=zhX hr
  refine⟨⟨g1,by omega,fun w hw=>by have:=g3 w hw;omega⟩,?_⟩
  intro hw
  cases g1 with
  | read p rs=>exact g5 p rs (.inl rfl)
  | try_ p rs=>exact g5 p rs (.inr (.inl rfl))
  | scan p w rs=>exact g4 p w rs rfl
  | write p rs=>exact g5 p rs (.inr (.inr rfl))
  | env a rs=>revert hw;simp[Q3,zU,wF,jM]
  | need a rs=>revert hw;simp[kF,zU,wF,jM]
  | keep a rs=>revert hw;simp[y3,zU,wF,jM]
  | sort rs=>revert hw;simp[wV,zU,wF,jM]
  | uniq rs=>revert hw;simp[yG,zU,wF,jM]
  | upper rs=>revert hw;simp[kV,zU,wF,jM]
  | count rs=>revert hw;simp[wC,zU,wF,jM]
  | fail rs=>revert hw;simp[QF,zU,wF,jM]
  | text rs=>revert hw;simp[jZ,zU,wF,jM]
 exact⟨⟨zaT env cs hl,fun x hx=>(hk x hx).1,h1,h2⟩,⟨fun x hx=>(hk x hx).2,fun e=>by cases e⟩⟩
theorem p6 {t:Txt} {cs:List CmdV} (h:zL t=.ok cs) {env:List (Txt × Txt)} (h1:env.length<=1000000000) (h2:∀x∈env,x.2.length<=1000000000000000) (outs:List Txt) (may:Txt->Bool):QE (GX env outs may cs):=by
 obtain⟨g1,g2⟩:=zfe h h1 h2
 exact⟨g1,g2,⟨.inl rfl,fun e=>rfl⟩,by show (0:Int)≠2;decide⟩
structure zm2 (a:QT):Prop where
 bt:a.tool.length<=1000000
 be:a.env.length<=1000000
 bev:∀x∈a.env,x.2.length<=1000000000000000
 bi:a.ins.length<=1000000
 ba:a.asks.length<=1000000
 bae:∀x∈a.asks,x.length<=1900000
 bo:a.outs.length<=1000000
noncomputable def QS (a:QT):Txt->Bool:=zap a.outs a.ins a.asks
def zo6 (a:QT) (r:TV) (H':q8):Prop:=match zL a.tool with
 | .error (e,_)=>r=.tup [(.ptr,.nilptr),(.int .i64,.i .i64 e)]/\H'=[]
 | .ok cs=>∃B,r=.tup [(.ptr,.ptr B UN []),(.int .i64,.i .i64 0)]/\ZY B (X3 a.env a.outs (QS a) cs) H'
theorem ZY.er {B:Nat} {b:zJ} {H:q8} (h:ZY B b H):H.er=H:=by
 obtain⟨q,hq,rfl⟩:=h
 exact(hq.er B).1
theorem zod (a:QT) (hb:zm2 a):q7 Tryz.prog 49 [.av zl3 (wW a)] [] (zo6 a):=by
 obtain⟨ht,he,hev,h1,h2,h2e,h3⟩:=hb
 have hce:=cT a.env he
 have hst:=zji a.tool ht a.env he
 have hea:=vS a.env
 unfold zo6
 refine q7.of_at laid Tryz.func49 rfl (by simp[Tryz.ntmps49]) fun imm0 w0=>?_
 refine AT.seq ?_
 refine zrd zfw ?_
 simp (disch:=omega) [zz,wW]
 refine AT.seq ?_
 refine zrd zfw ?_
 simp (disch:=omega) [zz]
 refine jO.ofK [0,1,2,3,4,5,6,7,8,9,10] [] [] (by kernel_rfl) ?_
 simp (disch:=omega) [zz]
 (repeat with_reducible refine om ?_)
 refine kP hce rfl rfl (by simp) (by simp[qR,TV.er,hea]) ?_
 simp (disch:=omega) [zz]
 (repeat with_reducible refine om ?_)
 refine w8 (R:=zad a.tool a.env) rfl (by simp[qE]) (by simp) ?_ ?_
 ·simpa[TV.er,AV.er,hea,q8.er_nil]using hst
 intro r H' hsp
 unfold zad at hsp
 cases hcv:zL a.tool with
 | error en =>
  obtain⟨e,n⟩:=en
  rw[hcv]at hsp
  obtain⟨rfl,rfl⟩:=hsp
  have hne:¬e=0:=by rcases YO hcv with h|h<;>omega
  simp (disch:=omega) [zz]
  (repeat with_reducible refine om ?_)
  refine AT.seq ?_
  refine zrd zfw ?_
  simp (disch:=omega) [zz,hne]
  simp (disch:=omega) [zz,Tryz.f49]
 | ok cs =>
  rw[hcv]at hsp
  obtain⟨R,rfl,hrun⟩:=hsp
  have hle:=Q8 hcv
  have hre:=hrun.er
  have hcl:=xO a.outs h3
  have hrd:=zis a h1 h2 h3
  have hgo:=(G9 (zfr a.env a.outs (QS a) cs hle)).1
  have hgood:=p6 hcv (env:=a.env) (by omega) hev a.outs (QS a)
  simp (disch:=omega) [zz]
  (repeat with_reducible refine om ?_)
  refine AT.seq ?_
  refine zrd zfw ?_
  simp (disch:=omega) [zz]
  refine AT.seq ?_
  have fin:∀(B W bo bi ba:Nat) (H0:q8),H0.Perm ((B,zF R a.outs (zW bo bi ba) W .nsl [] false 0)::(W,wrO [])::(WK bo bi ba a.outs a.ins a.asks++H'))->∃H2,H0.Perm H2/\ZY B (GX a.env a.outs (QS a) cs) H2:=by
   intro B W bo bi ba H0 hp
   refine⟨_,hp,⟨R,H',W,bo,bi,ba,a.ins,a.asks,.nsl,[]⟩,⟨hrun,.inl ⟨rfl,rfl,rfl⟩,rfl,⟨Nat.le_trans h3 (by omega),Nat.le_trans h1 (by omega),Nat.le_trans h2 (by omega),h2e⟩⟩,?_⟩
   simp[JF.core,JF.M,GX]
  refine AT.two (cf:=zfw) laid mixed [0,1,2,3,4] 5 6 [6,7,8,9] [5,7,8,9] [0,1,2,3,4] (by kernel_rfl) (by kernel_rfl) (by decide) (by kernel_rfl) (by kernel_rfl) ?_
  simp (disch:=omega) [zz,ziB,zk3,pG,DT,zdc,isLt,zjE]
  (repeat with_reducible refine om ?_)
  have hae:(AV.agg [.agg [.s a.pkg,.s a.name],.s a.tool,zO a.env,.sl .no (strs a.ins),.sl .no (strs a.asks),.sl .no (strs a.outs)]).er=wW a:=pC a
  refine⟨_,hcl,by kernel_rfl,by kernel_rfl,⟨by kernel_rfl,?_⟩,by kernel_rfl,?_⟩
  ·refine qD (R:=fun r H'=>∃bo bi ba,r=.av .func (zW bo bi ba)/\H'=WK bo bi ba a.outs a.ins a.asks) [] H' (by simp) rfl (by simp[qE]) (by simp) ?_ ?_
   ·have hrd':=hrd
    simp only[wW]at hrd'
    simpa[TV.er,AV.er,AV.ers,hea]using hrd'
   rintro r2 H2 ⟨bo,bi,ba,rfl,rfl⟩ hnd
   refine⟨_,HSub.refl _,?_⟩
   refine⟨by kernel_rfl,by kernel_rfl,?_⟩
   simp (disch:=omega) [zz,pG,DT,zjE]
   intro W w1 w2
   refine⟨by kernel_rfl,by kernel_rfl,by kernel_rfl,?_⟩
   intro B x1 x2 x3
   obtain⟨H2,hp2,hH2⟩:=fin B W bo bi ba _ (List.Perm.refl _)
   refine zrd zfw ?_
   simp (disch:=omega) [zz]
   refine qD (R:=fun y H'=>y=.tup []/\ZY B (X3 a.env a.outs (QS a) cs) H') H2 [] (by simpa[zF,wrO,wrE]using hp2) rfl (by simp[qE]) (by simp) ?_ ?_
   ·rw[hH2.er]
    have hgo2:=Y2 B hH2 hgood _ hgo
    rw[show QX (GX a.env a.outs (QS a) cs)=X3 a.env a.outs (QS a) cs from rfl]at hgo2
    simpa[TV.er,AV.er]using hgo2
   rintro y H9 ⟨rfl,hfin⟩ _
   refine⟨H9,by simpa using HSub.refl _,?_⟩
   have hfe:=hfin.er
   simp (disch:=omega) [zz,hfe,Tryz.f49]
   exact hfin
  ·intro W w1
   refine⟨by kernel_rfl,by kernel_rfl,?_⟩
   refine qD (R:=fun r H'=>∃bo bi ba,r=.av .func (zW bo bi ba)/\H'=WK bo bi ba a.outs a.ins a.asks) [] ((W,.map 9 9 [])::H') (by simp) rfl (by simp[qE]) (by simp) ?_ ?_
   ·have hrd':=hrd
    simp only[wW]at hrd'
    simpa[TV.er,AV.er,AV.ers,hea]using hrd'
   rintro r2 H2 ⟨bo,bi,ba,rfl,rfl⟩ hnd
   refine⟨_,HSub.refl _,?_⟩
   simp (disch:=omega) [zz,pG,DT,zjE]
   refine⟨by kernel_rfl,by kernel_rfl,by kernel_rfl,?_⟩
   intro B x1 x2 x3
   obtain⟨H2,hp2,hH2⟩:=fin B W bo bi ba ((B,zF R a.outs (zW bo bi ba) W .nsl [] false 0)::(WK bo bi ba a.outs a.ins a.asks++(W,wrO [])::H')) (by
    refine List.perm_iff_count.2 fun a=>?_
    simp only[List.count_append,List.count_cons];omega)
   refine zrd zfw ?_
   simp (disch:=omega) [zz]
   refine qD (R:=fun y H'=>y=.tup []/\ZY B (X3 a.env a.outs (QS a) cs) H') H2 [] (by simpa[zF,wrO,wrE]using hp2) rfl (by simp[qE]) (by simp) ?_ ?_
   ·rw[hH2.er]
    have hgo2:=Y2 B hH2 hgood _ hgo
    rw[show QX (GX a.env a.outs (QS a) cs)=X3 a.env a.outs (QS a) cs from rfl]at hgo2
    simpa[TV.er,AV.er]using hgo2
   rintro y H9 ⟨rfl,hfin⟩ _
   refine⟨H9,by simpa using HSub.refl _,?_⟩
   have hfe:=hfin.er
   simp (disch:=omega) [zz,hfe,Tryz.f49]
   exact hfin
end
end Go.Proofs.YtdkieabmeiojjaaGreatDoor
