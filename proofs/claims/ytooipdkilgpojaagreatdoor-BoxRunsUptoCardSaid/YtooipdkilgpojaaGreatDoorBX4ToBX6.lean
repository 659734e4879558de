/- A box goes on. No condition beyond each theorem's own. -/
import Derived.Test.YtooipdkilgpojaaGreatDoorBX2ToBL0
import Derived.Test.YtooipdkilgpojaaGreatDoorAbSToSk
import Derived.Test.YtooipdkilgpojaaGreatDoorKTgToKS2
set_option linter.unusedSimpArgs false
set_option linter.unusedVariables false
set_option linter.unusedSectionVars false
section
set_option maxRecDepth 100000
namespace Go.Proofs.YtooipdkilgpojaaGreatDoor
open Go Go.Ab
open Classical
variable [Sel] [SelPow] [SelMax]
def jA (bo bi ba:Nat):AV:=.fn 65 [.ptr bo TsT [],.ptr bi TsT [],.ptr ba TsT []]
noncomputable def kR (cap:Nat) (l:List XF) (j:List AV):HObj:=.var (.arr cap 79) (.agg (l.map qI++j))
def cM (l:List XF) (rd:AV) (RD:q8):Prop :=
 (l=[]∧rd=.nsl∧RD=[])∨(∃T cap j,JK j∧rd=.msl T 79 0 l.length cap∧l.length+j.length=cap∧RD=[(T,kR cap l j)])
theorem UF (l:List XF):AV.erks (l.map qI)=l.map qI:=by
 rw[AV.erks_eq,List.map_map]
 refine List.map_congr_left fun x _=>?_
 exact kH _ (dJ x)
theorem cM.er {l:List XF} {rd:AV} {RD:q8} (h:cM l rd RD):RD.er=RD∧rd.erk=rd:=by
 rcases h with⟨_,rfl,rfl⟩|⟨T,cap,j,hj,rfl,_,rfl⟩
 ·exact⟨rfl,rfl⟩
 ·refine⟨?_,rfl⟩
  simp only[q8.er_cons,q8.er_nil,kR,HObj.er_var,AV.erk,uC,UF]
  rw[show AV.erks j=j from hj]
structure J3 where
 R:Nat
 HR:q8
 W:Nat
 bo:Nat
 bi:Nat
 ba:Nat
 ins:List Txt
 ask:List Txt
 rd:AV
 RD:q8
noncomputable def J3.M (q:J3) (b:zGo):q8:=W8 q.bo q.bi q.ba b.outs q.ins q.ask++q.RD
noncomputable def J3.core (q:J3) (B:Nat) (b:zGo):q8:=(B,zO q.R b.outs (jA q.bo q.bi q.ba) q.W q.rd b.asks b.over b.why)::(q.W,wrO b.wrote)::(q.M b++q.HR)
structure J3.OK (q:J3) (b:zGo):Prop where
 run:z6 q.R b.run q.HR
 reads:cM b.reads q.rd q.RD
 may:b.may=pJ b.outs q.ins q.ask
 mb:zpJ b.outs q.ins q.ask
def jJ (B:Nat) (b:zGo) (H:q8):Prop:=∃q:J3,q.OK b∧H=q.core B b
theorem J3.OK.er {q:J3} {b:zGo} (h:q.OK b) (B:Nat):(q.core B b).er=q.core B b∧(q.M b).er=q.M b∧q.HR.er=q.HR∧q.rd.erk=q.rd:=by
 obtain⟨h1,h2⟩:=h.reads.er
 have h3:=h.run.er
 have h4:(q.M b).er=q.M b:=by simp only[J3.M,q8.er_app,vQ,h1]
 refine⟨?_,h4,h3,h2⟩
 simp only[J3.core,q8.er_cons,q8.er_app,h3,h4,QZ,J2 (mf:=jA q.bo q.bi q.ba) rfl h2]
theorem zgQ (b:zGo) (d:DoV) (r':y3) (h:w9 b.run=(d,r')):roundB b =
  if d.kind=1 then(if b.may d.path=true then({ b with run:=r',asks:=d.path },true) else(QM 13 { b with run:=r' },false))
  else if d.kind=2 then(JA d.path d.data { b with run:=r' },false)
  else if d.kind=3 then(if YU b=true then(QM 14 { b with run:=r' },false) else({ b with run:=r',over:=true },false))
  else(QM d.why { b with run:=r' },false):=by
 unfold roundB
 rw[h]
abbrev znq:Cfg:=⟨fun n=>n==1,fun _=>false⟩
set_option maxHeartbeats 8000000 in
theorem WP (B:Nat) {b bf:zGo} {H:q8} (hH:jJ B b H) (hg:ZJ b) (n:Nat) (hn:goN n b=some bf) :
  q7 Tryz.prog 31 [.av .ptr (.ptr B KD [])] H fun y H'=>y=.tup []∧jJ B bf H':=by
 refine q7.sub (R:=fun y H'=>y=.tup []∧∃H2,Ab.HSub H2 H'∧jJ B bf H2) ?_ fun y H' ⟨h1,H2,h2,h3⟩ _=>⟨H2,h2,h1,h3⟩
 refine zov Tryz.func31 znq fun imm0 w0=>?_
 simp (disch:=omega) [zz]
 intro b1 m1
 refine AT.loop' (α:=Nat × zGo × q8) (fun x=>St.of [(1,.av .ptr (.ptr b1 .ptr []))] [] (fun _=>0) ((b1,yI B)::x.2.2))
  (fun x=>goN x.1 x.2.1=some bf∧ZJ x.2.1∧jJ B x.2.1 x.2.2) (fun x=>x.1) (n,b,H) ?_ ?_ ?_
 ·apply Le.of<;>simp[qU,qG,yI]
 ·exact⟨hn,hg,hH⟩
 clear hn hg hH m1 b
 rintro⟨n,b,H1⟩ ⟨hn,hg,hq0⟩ KL hN hE
 simp only at hn hg hq0 hN ⊢
 obtain⟨q,hq,rfl⟩:=hq0
 cases n with
 | zero=>cases hn
 | succ n =>
 rw[goN]at hn
 obtain⟨hce,hMe,hHe,hre⟩:=hq.er B
 refine znk fun hnd=>?_
 simp[J3.core,q8.keys]at hnd
 obtain⟨⟨n1,n2,n3⟩,⟨n4,n5⟩,n6,n7⟩:=hnd
 have sy:∀ {a b:Nat},¬a=b→¬b=a:=fun h e=>h e.symm
 have n1':=sy n1;have n2':=sy n2;have n4':=sy n4
 by_cases ho:b.over=true
 ·rw[if_pos ho]at hn
  have hbf:=Option.some.inj hn
  subst hbf
  have hcc:q.core B b=(B,zO q.R b.outs (jA q.bo q.bi q.ba) q.W q.rd b.asks b.over b.why)::(q.W,wrO b.wrote)::(q.M b++q.HR):=rfl
  obtain⟨M,hM⟩:∃M:q8,M=(q.W,wrO b.wrote)::(q.M b++q.HR):=⟨_,rfl⟩
  rw[←hM]at hcc
  have hMM:M.er=M:=by
   rw[hM];simp only[q8.er_cons,q8.er_app,hMe,hHe,QZ]
  rw[hcc]
  refine qM (cf:=znq) laid mixed _ _ _ (by kernel_rfl) ?_
  simp (disch:=omega) [zz,yI,zO,n1,n1',ho]
  refine hE _ _ (by simp) ?_
  simp (disch:=omega) [zz,hMM,hre,jA,Tryz.f31]
  refine⟨q.core B b,?_,q,hq,rfl⟩
  rw[hcc]
  simp only[zO,ho,jA]
  exact HSub.of_sub ((List.Sublist.refl _).cons _)
 rw[if_neg ho]at hn
 have ho':b.over=false:=by simpa using ho
 obtain⟨⟨d,r'⟩,hdr⟩:∃x,w9 b.run=x:=⟨_,rfl⟩
 have hnx:=zmk q.R hq.run hg.good
 have hrd:=hg.round
 have hgr:=hg.roundB
 rw[hdr]at hnx hrd
 simp only at hnx hrd
 have hrb:=zgQ b d r' hdr
 obtain⟨M,hM⟩:∃M,M=q.M b:=⟨_,rfl⟩
 have hcc:q.core B b=(B,zO q.R b.outs (jA q.bo q.bi q.ba) q.W q.rd b.asks b.over b.why)::(q.W,wrO b.wrote)::(M++q.HR):=by rw[hM];rfl
 rw[hcc]
 rw[←hM]at hMe
 refine qM (cf:=znq) laid mixed _ _ _ (by kernel_rfl) ?_
 simp (disch:=omega) [zz,yI,zO,n1,n1',ho']
 refine qE (R:=fun y H'=>y=.av DoT (jG d)∧z6 q.R r' H') q.HR ((b1,yI B)::(B,zO q.R b.outs (jA q.bo q.bi q.ba) q.W q.rd b.asks b.over b.why)::(q.W,wrO b.wrote)::M) ?_ rfl (by simp[qQ]) (by simp) ?_ ?_
 ·refine List.perm_iff_count.2 fun a=>?_
  simp only[yI,zO,ho',List.count_append,List.count_cons];omega
 ·rw[hHe]
  simpa[TV.er,AV.er]using hnx
 rintro y H' ⟨rfl,hrun'⟩ _
 refine⟨(b1,yI B)::(B,zO q.R b.outs (jA q.bo q.bi q.ba) q.W q.rd b.asks b.over b.why)::(q.W,wrO b.wrote)::(M++H'),HSub.of_perm ?_,?_⟩
 ·refine List.perm_iff_count.2 fun a=>?_
  simp only[List.count_append,List.count_cons];omega
 obtain⟨q',hq'⟩:∃q':J3,q'={ q with HR:=H' }:=⟨_,rfl⟩
 have hqa:∀p,q'.OK { b with run:=r',asks:=p }:=fun p=>by
  rw[hq'];exact⟨hrun',hq.reads,hq.may,hq.mb⟩
 have hca:∀p,q'.core B { b with run:=r',asks:=p }=(B,zO q.R b.outs (jA q.bo q.bi q.ba) q.W q.rd p b.over b.why)::(q.W,wrO b.wrote)::(M++H'):=fun p=>by
  rw[hq',hM];rfl
 have hqf:∀e,q'.OK (QM e { b with run:=r' }):=fun e=>by
  rw[hq'];exact⟨hrun',hq.reads,hq.may,hq.mb⟩
 have hcf:∀e,q'.core B (QM e { b with run:=r' })=(B,zO q.R b.outs (jA q.bo q.bi q.ba) q.W q.rd b.asks true e)::(q.W,wrO b.wrote)::(M++H'):=fun e=>by
  rw[hq',hM];rfl
 have hqo:q'.OK { b with run:=r',over:=true }:=by
  rw[hq'];exact⟨hrun',hq.reads,hq.may,hq.mb⟩
 have hco:q'.core B { b with run:=r',over:=true }=(B,zO q.R b.outs (jA q.bo q.bi q.ba) q.W q.rd b.asks true b.why)::(q.W,wrO b.wrote)::(M++H'):=by
  rw[hq',hM];rfl
 have hHe':=hrun'.er
 by_cases h1:d.kind=1
 ·-- it asks
  have hpl:=hrd.2 h1
  have hmay:=zeh q.bo q.bi q.ba b.outs q.ins q.ask hq.mb d.path (by omega)
  rw[←hq.may]at hmay
  obtain⟨m,hm⟩:∃m,m=b.may d.path:=⟨_,rfl⟩
  rw[←hm]at hmay
  have hMH:M=W8 q.bo q.bi q.ba b.outs q.ins q.ask++q.RD:=hM
  simp (disch:=omega) [zz,yI,zO,jG,h1,n1,n1',jA]
  (repeat with_reducible refine om ?_)
  refine UL (r:=.av .bool (.b m)) (bs:=[.av .str (.s d.path),.av .ptr (.ptr q.bo TsT []),.av .ptr (.ptr q.bi TsT []),.av .ptr (.ptr q.ba TsT [])]) (W8 q.bo q.bi q.ba b.outs q.ins q.ask) ((b1,yI B)::(B,zO q.R b.outs (jA q.bo q.bi q.ba) q.W q.rd b.asks b.over b.why)::(q.W,wrO b.wrote)::(q.RD++H')) ?_ (by rw[vQ];exact hmay) rfl (by simp[qQ]) (by simp) (by simp[qS,TV.er,AV.er]) ?_
  ·rw[hMH]
   refine List.perm_iff_count.2 fun a=>?_
   simp only[yI,zO,jA,ho',List.count_append,List.count_cons];omega
  cases m with
  | true =>
   have e:roundB b=({ b with run:=r',asks:=d.path },true):=by rw[hrb,if_pos h1,if_pos hm.symm]
   rw[e]at hn
   simp only[if_true]at hn
   have hbf:=Option.some.inj hn
   subst hbf
   simp (disch:=omega) [zz,yI,zO,h1,n1,n1',jA]
   refine hE _ _ (by simp) ?_
   simp (disch:=omega) [zz,hre,hMe,hHe',QZ,Tryz.f31]
   refine⟨q'.core B { b with run:=r',asks:=d.path },?_,q',hqa _,rfl⟩
   rw[hca]
   simp only[zO,jA,ho']
   exact HSub.of_sub ((List.Sublist.refl _).cons _)
  | false =>
   have e:roundB b=(QM 13 { b with run:=r' },false):=by rw[hrb,if_pos h1,if_neg (by rw[←hm];decide)]
   rw[e]at hn hgr
   simp only[Bool.false_eq_true,if_false]at hn hgr
   simp (disch:=omega) [zz,yI,zO,h1,n1,n1',jA]
   refine qE (R:=fun r H'=>r=.tup []∧H'=[(B,zO q.R b.outs (jA q.bo q.bi q.ba) q.W q.rd b.asks true 13)]) [(B,zO q.R b.outs (jA q.bo q.bi q.ba) q.W q.rd b.asks b.over b.why)] ((b1,yI B)::(q.W,wrO b.wrote)::(M++H')) ?_ rfl (by simp[qQ]) (by simp) ?_ ?_
   ·refine List.perm_iff_count.2 fun a=>?_
    simp only[yI,zO,jA,ho',List.count_append,List.count_cons,List.count_nil];omega
   ·rw[q8.er_cons,J2 rfl hre]
    refine q7.args (vL B (13) q.R b.outs (jA q.bo q.bi q.ba) q.W q.rd b.asks b.over b.why rfl hre) (by simp[qS,coC,TV.er,AV.er])
   rintro r H9 ⟨rfl,rfl⟩ _
   refine⟨(b1,yI B)::(B,zO q.R b.outs (jA q.bo q.bi q.ba) q.W q.rd b.asks true 13)::(q.W,wrO b.wrote)::(M++H'),HSub.of_perm (List.Perm.swap _ _ _),?_⟩
   simp (disch:=omega) [zz]
   refine hN _ (n,QM (13) { b with run:=r' },q'.core B (QM (13) { b with run:=r' })) ?_ ⟨hn,hgr,q',hqf _,rfl⟩ (by simp only;omega)
   rw[hcf]
   refine Le.ofP ?_ ?_ ?_ ?_ (HSub.refl _)<;>simp[qU,qG]
 by_cases h2:d.kind=2
 ·-- it writes
  have hwo:=zik B d.path d.data q.R b.outs hq.mb.o (jA q.bo q.bi q.ba) q.W q.rd b.asks b.over b.why b.wrote rfl hre
  have hw:roundB b=(JA d.path d.data { b with run:=r' },false):=by rw[hrb,if_neg h1,if_pos h2]
  rw[hw]at hn hgr
  simp only[Bool.false_eq_true,if_false]at hn hgr
  simp (disch:=omega) [zz,yI,zO,jG,h1,h2,n1,n1']
  refine qE (R:=fun r H9=>r=.tup []∧H9=(if d.path∈b.wrote.map (·.1)∨d.path∉b.outs then [(B,zO q.R b.outs (jA q.bo q.bi q.ba) q.W q.rd b.asks true 14),(q.W,wrO b.wrote)] else [(B,zO q.R b.outs (jA q.bo q.bi q.ba) q.W q.rd b.asks b.over b.why),(q.W,wrO (b.wrote++[(d.path,d.data)]))])) [(B,zO q.R b.outs (jA q.bo q.bi q.ba) q.W q.rd b.asks b.over b.why),(q.W,wrO b.wrote)] ((b1,yI B)::(M++H')) ?_ rfl (by simp[qQ]) (by simp) ?_ ?_
  ·refine List.perm_iff_count.2 fun a=>?_
   simp only[yI,zO,jA,ho',List.count_append,List.count_cons,List.count_nil];omega
  ·rw[q8.er_cons,q8.er_cons,J2 rfl hre,QZ]
   refine q7.args hwo (by simp[qS,coC,TV.er,AV.er])
  rintro r H9 ⟨rfl,rfl⟩ _
  by_cases hb:d.path∈b.wrote.map (·.1)∨d.path∉b.outs
  ·have e:JA d.path d.data { b with run:=r' }=QM 14 { b with run:=r' }:=by unfold JA;exact if_pos hb
   rw[e]at hn hgr
   rw[if_pos hb]
   refine⟨(b1,yI B)::(B,zO q.R b.outs (jA q.bo q.bi q.ba) q.W q.rd b.asks true 14)::(q.W,wrO b.wrote)::(M++H'),HSub.of_perm ?_,?_⟩
   ·refine List.perm_iff_count.2 fun a=>?_
    simp only[List.count_append,List.count_cons,List.count_nil];omega
   simp (disch:=omega) [zz]
   refine hN _ (n,QM 14 { b with run:=r' },q'.core B (QM 14 { b with run:=r' })) ?_ ⟨hn,hgr,q',hqf _,rfl⟩ (by simp only;omega)
   rw[hcf]
   refine Le.ofP ?_ ?_ ?_ ?_ (HSub.refl _)<;>simp[qU,qG]
  ·have e:JA d.path d.data { b with run:=r' }={ b with run:=r',wrote:=b.wrote++[(d.path,d.data)] }:=by unfold JA;exact if_neg hb
   rw[e]at hn hgr
   rw[if_neg hb]
   refine⟨(b1,yI B)::(B,zO q.R b.outs (jA q.bo q.bi q.ba) q.W q.rd b.asks b.over b.why)::(q.W,wrO (b.wrote++[(d.path,d.data)]))::(M++H'),HSub.of_perm ?_,?_⟩
   ·refine List.perm_iff_count.2 fun a=>?_
    simp only[List.count_append,List.count_cons,List.count_nil];omega
   simp (disch:=omega) [zz]
   refine hN _ (n,{ b with run:=r',wrote:=b.wrote++[(d.path,d.data)] },q'.core B { b with run:=r',wrote:=b.wrote++[(d.path,d.data)] }) ?_ ⟨hn,hgr,q',?_,rfl⟩ (by simp only;omega)
   ·rw[show q'.core B { b with run:=r',wrote:=b.wrote++[(d.path,d.data)] }=(B,zO q.R b.outs (jA q.bo q.bi q.ba) q.W q.rd b.asks b.over b.why)::(q.W,wrO (b.wrote++[(d.path,d.data)]))::(M++H') by rw[hq',hM];rfl]
    refine Le.ofP ?_ ?_ ?_ ?_ (HSub.refl _)<;>simp[qU,qG]
   ·rw[hq'];exact⟨hrun',hq.reads,hq.may,hq.mb⟩
 by_cases h3:d.kind=3
 ·-- it has ended
  obtain⟨lk,hlk⟩:∃lk,lk=YU b:=⟨_,rfl⟩
  have hany:=zbk (fun x=>decide (x∉b.wrote.map (·.1))) (.fn 71 [.ptr b1 .ptr []]) [(b1,yI B),(B,zO q.R b.outs (jA q.bo q.bi q.ba) q.W q.rd b.asks true b.why),(q.W,wrO b.wrote)] b.outs
   ⟨by simp only[q8.er_cons,q8.er_nil,J2 (mf:=jA q.bo q.bi q.ba) rfl hre,QZ];rfl,rfl,fun x hx=>⟨_,rfl,by simp,by simpa[TV.er,AV.er]using zhf b1 B x q.R b.outs (jA q.bo q.bi q.ba) q.W q.rd b.asks true b.why b.wrote rfl hre⟩⟩ (by have:=hq.mb.o;omega)
  have hlq:b.outs.any (fun x=>decide (x∉b.wrote.map (·.1)))=lk:=by rw[hlk];rfl
  rw[hlq]at hany
  have he3:q8.er [(b1,yI B),(B,zO q.R b.outs (jA q.bo q.bi q.ba) q.W q.rd b.asks true b.why),(q.W,wrO b.wrote)]=[(b1,yI B),(B,zO q.R b.outs (jA q.bo q.bi q.ba) q.W q.rd b.asks true b.why),(q.W,wrO b.wrote)]:=by
   simp only[q8.er_cons,q8.er_nil,J2 (mf:=jA q.bo q.bi q.ba) rfl hre,QZ];rfl
  simp (disch:=omega) [zz,yI,zO,jG,h1,h2,h3,n1,n1']
  refine qE (R:=fun r H9=>r=.av .bool (.b lk)∧H9=[(b1,yI B),(B,zO q.R b.outs (jA q.bo q.bi q.ba) q.W q.rd b.asks true b.why),(q.W,wrO b.wrote)]) [(b1,yI B),(B,zO q.R b.outs (jA q.bo q.bi q.ba) q.W q.rd b.asks true b.why),(q.W,wrO b.wrote)] (M++H') ?_ rfl (by simp[qQ]) (by simp) ?_ ?_
  ·simp only[yI,zO,List.cons_append,List.nil_append];exact List.Perm.refl _
  ·rw[he3]
   simpa[TV.er,AV.er]using hany
  rintro r H9 ⟨rfl,rfl⟩ _
  refine⟨_,HSub.refl _,?_⟩
  cases lk with
  | true =>
   have e:roundB b=(QM 14 { b with run:=r' },false):=by rw[hrb,if_neg h1,if_neg h2,if_pos h3,if_pos hlk.symm]
   rw[e]at hn hgr
   simp only[Bool.false_eq_true,if_false]at hn hgr
   simp (disch:=omega) [zz,yI,zO,n1,n1']
   refine qE (R:=fun r H'=>r=.tup []∧H'=[(B,zO q.R b.outs (jA q.bo q.bi q.ba) q.W q.rd b.asks true 14)]) [(B,zO q.R b.outs (jA q.bo q.bi q.ba) q.W q.rd b.asks true b.why)] ((b1,yI B)::(q.W,wrO b.wrote)::(M++H')) ?_ rfl (by simp[qQ]) (by simp) ?_ ?_
   ·refine List.perm_iff_count.2 fun a=>?_
    simp only[yI,zO,jA,ho',List.count_append,List.count_cons,List.count_nil];omega
   ·rw[q8.er_cons,J2 rfl hre]
    refine q7.args (vL B (14) q.R b.outs (jA q.bo q.bi q.ba) q.W q.rd b.asks true b.why rfl hre) (by simp[qS,coC,TV.er,AV.er])
   rintro r H9 ⟨rfl,rfl⟩ _
   refine⟨(b1,yI B)::(B,zO q.R b.outs (jA q.bo q.bi q.ba) q.W q.rd b.asks true 14)::(q.W,wrO b.wrote)::(M++H'),HSub.of_perm (List.Perm.swap _ _ _),?_⟩
   simp (disch:=omega) [zz]
   refine hN _ (n,QM (14) { b with run:=r' },q'.core B (QM (14) { b with run:=r' })) ?_ ⟨hn,hgr,q',hqf _,rfl⟩ (by simp only;omega)
   rw[hcf]
   refine Le.ofP ?_ ?_ ?_ ?_ (HSub.refl _)<;>simp[qU,qG]
  | false =>
   have e:roundB b=({ b with run:=r',over:=true },false):=by rw[hrb,if_neg h1,if_neg h2,if_pos h3,if_neg (by rw[←hlk];decide)]
   rw[e]at hn hgr
   simp only[Bool.false_eq_true,if_false]at hn hgr
   simp (disch:=omega) [zz,yI,zO,n1,n1']
   refine hN _ (n,{ b with run:=r',over:=true },q'.core B { b with run:=r',over:=true }) ?_ ⟨hn,hgr,q',hqo,rfl⟩ (by simp only;omega)
   rw[hco]
   refine Le.ofP ?_ ?_ ?_ ?_ (HSub.refl _)<;>simp[qU,qG,yI,zO]
 ·-- it has failed
  have e:roundB b=(QM d.why { b with run:=r' },false):=by rw[hrb,if_neg h1,if_neg h2,if_neg h3]
  rw[e]at hn hgr
  simp only[Bool.false_eq_true,if_false]at hn hgr
  simp (disch:=omega) [zz,yI,zO,jG,h1,h2,h3,n1,n1']
  refine qE (R:=fun r H'=>r=.tup []∧H'=[(B,zO q.R b.outs (jA q.bo q.bi q.ba) q.W q.rd b.asks true d.why)]) [(B,zO q.R b.outs (jA q.bo q.bi q.ba) q.W q.rd b.asks b.over b.why)] ((b1,yI B)::(q.W,wrO b.wrote)::(M++H')) ?_ rfl (by simp[qQ]) (by simp) ?_ ?_
  ·refine List.perm_iff_count.2 fun a=>?_
   simp only[yI,zO,jA,ho',List.count_append,List.count_cons,List.count_nil];omega
  ·rw[q8.er_cons,J2 rfl hre]
   refine q7.args (vL B (d.why) q.R b.outs (jA q.bo q.bi q.ba) q.W q.rd b.asks b.over b.why rfl hre) (by simp[qS,coC,TV.er,AV.er])
  rintro r H9 ⟨rfl,rfl⟩ _
  refine⟨(b1,yI B)::(B,zO q.R b.outs (jA q.bo q.bi q.ba) q.W q.rd b.asks true d.why)::(q.W,wrO b.wrote)::(M++H'),HSub.of_perm (List.Perm.swap _ _ _),?_⟩
  simp (disch:=omega) [zz]
  refine hN _ (n,QM (d.why) { b with run:=r' },q'.core B (QM (d.why) { b with run:=r' })) ?_ ⟨hn,hgr,q',hqf _,rfl⟩ (by simp only;omega)
  rw[hcf]
  refine Le.ofP ?_ ?_ ?_ ?_ (HSub.refl _)<;>simp[qU,qG]
abbrev UI:TyD:=.struct [23,9,24,25,25,25]
structure xW where
 pkg:Txt
 name:Txt
 tool:Txt
 env:List (Txt × Txt)
 ins:List Txt
 asks:List Txt
 outs:List Txt
def kT (a:xW):AV:=.agg [.agg [.s a.pkg,.s a.name],.s a.tool,zS a.env,.sl .no (strs a.ins),.sl .no (strs a.asks),.sl .no (strs a.outs)]
@[simp] theorem YB (a:xW):(kT a).er=kT a:=by
 simp[kT,AV.er,AV.ers,v8,strs,AV.ers_eq,Function.comp_def]
abbrev zpD:Cfg:=⟨fun _=>false,fun n=>n==3000001⟩
theorem zhs (a:xW) (h1:a.ins.length≤1000000) (h2:a.asks.length≤1000000) (h3:a.outs.length≤1000000) :
  q7 Tryz.prog 30 [.av UI (kT a)] [] fun r H'=>∃bo bi ba,r=.av .func (jA bo bi ba)∧H'=W8 bo bi ba a.outs a.ins a.asks:=by
 refine q7.sub (R:=fun r H'=>∃bo bi ba,r=.av .func (jA bo bi ba)∧∃H2,Ab.HSub H2 H'∧H2=W8 bo bi ba a.outs a.ins a.asks) ?_ fun r H' ⟨bo,bi,ba,h1,H2,h2,h3⟩ _=>⟨H2,h2,bo,bi,ba,h1,h3⟩
 refine zov Tryz.func30 zpD fun imm0 w0=>?_
 simp (disch:=omega) [zz,kT]
 (repeat with_reducible refine om ?_)
 refine jC (x8 a.ins h1) rfl rfl (by simp) (by simp[qS,TV.er,AV.er]) ?_
 simp (disch:=omega) [zz]
 (repeat with_reducible refine om ?_)
 refine jC (x8 a.asks h2) rfl rfl (by simp) (by simp[qS,TV.er,AV.er]) ?_
 simp (disch:=omega) [zz]
 (repeat with_reducible refine om ?_)
 refine jC (x8 a.outs h3) rfl rfl (by simp) (by simp[qS,TV.er,AV.er]) ?_
 simp (disch:=omega) [zz]
 (repeat with_reducible refine om ?_)
 intro bi ba nba bo nbo1 nbo2
 simp (disch:=omega) [zz,jA,W8,zxJ,Tryz.f30]
 refine⟨bo,bi,ba,⟨rfl,rfl,rfl⟩,HSub.of_perm ?_⟩
 exact List.Perm.cons _ (List.Perm.swap _ _ _)
theorem zhB {pr:List Nat} {P:Program} {cf:Cfg} {ops:Array Oper} {Lt:LtK} {K:St→Prop} {k m:Nat} {ra rb:List Nat} {s:St}:CW pr P cf ops Lt K k m ra rb [] s=match ops[k]?,ops[m]? with
  | some ok,some om=>zjj ops k m ra=true∧(CO ops Lt pr k=true∧XX P cf s ok Lt.kb (uT pr P cf ops Lt K ra))∧(CO ops Lt pr m=true∧XX P cf s om Lt.kb (uT pr P cf ops Lt K rb))
  | _,_=>False:=nr rfl
theorem zgJ {pr:List Nat} {P:Program} {cf:Cfg} {ops:Array Oper} {Lt:LtK} {K:St→Prop} {k m:Nat} {ra rb:List Nat} {j:Nat} {r:List Nat} {s:St}:CW pr P cf ops Lt K k m ra rb (j::r) s=match ops[j]? with
  | none=>False
  | some o=>pr.contains j=false∧WX ops j o s=true∧o.guard=none∧((isLt Lt.kb s o=true∧zJ P s o.op (KH s o.dst (CW pr P cf ops Lt K k m ra rb r)))∨zdi P s o (CW pr P cf ops Lt K k m ra rb r)):=nr rfl
theorem D7 {pr:List Nat} {P:Program} {cf:Cfg} {ops:Array Oper} {Lt:LtK} {K:St→Prop} {s:St}:uT pr P cf ops Lt K [] s=K s:=nr rfl
theorem gQ {pr:List Nat} {P:Program} {cf:Cfg} {ops:Array Oper} {Lt:LtK} {K:St→Prop} {k:Nat} {r:List Nat} {s:St}:uT pr P cf ops Lt K (k::r) s=match ops[k]? with
  | none=>False
  | some o=>if pr.contains k=true then vO ops k r=true∧CO ops Lt pr k=true∧XX P cf s o Lt.kb (uT pr P cf ops Lt K r)
   else if sft cf o=true then vO ops k r=true∧CO ops Lt pr k=true∧XX P cf s o Lt.kb (uT pr P cf ops Lt K r)
   else if zjb cf o=true then UZ ops k=true∧vcG P cf ops s o (uT pr P cf ops Lt K r)
   else WX ops k o s=true∧o.guard=none∧Lt.l.contains k=false∧vcD P cf s o (uT pr P cf ops Lt K r):=nr rfl
abbrev zeA:Cfg:=⟨fun n=>n==27,fun n=>n==1000001||n==2000013||n==26||n==2000027⟩
theorem vF:∀(ls:List Txt) (i:Nat) (l:List CmdV),yC i ls=.ok l→∀c∈l,∃s∈ls,Z0 s=some (some c)
 | [],i,l,h,c,hc=>by cases h;cases hc
 | s::r,i,l,h,c,hc=>by
  unfold yC at h
  split at h
  ·cases h
  ·obtain⟨x,h1,h2⟩:=vF r _ _ h c hc
   exact⟨x,List.mem_cons_of_mem _ h1,h2⟩
  ·rename_i c' hc'
   split at h
   ·rename_i l' hl'
    cases h
    rcases List.mem_cons.1 hc with rfl|hc
    ·exact⟨s,List.mem_cons_self,hc'⟩
    ·obtain⟨x,h1,h2⟩:=vF r _ _ hl' c hc
     exact⟨x,List.mem_cons_of_mem _ h1,h2⟩
   ·cases h
theorem XU {t:Txt} {cs:List CmdV} (h:j7 t=.ok cs):t.length≤65536∧∃i,yC i (z7 t)=.ok cs:=by
 unfold j7 at h
 split at h
 ·cases h
 ·rename_i hn
  split at h
  ·rename_i l hl
   cases h
   exact⟨by omega,0,hl⟩
  ·cases h
theorem zfn {t:Txt} {cs:List CmdV} (h:j7 t=.ok cs) {env:List (Txt × Txt)} (h1:env.length≤1000000000) (h2:∀x∈env,x.2.length≤1000000000000000):wH (W7 env cs)∧Q9 (W7 env cs):=by
 obtain⟨ht,i,hc⟩:=XU h
 have hl:=y8 h
 have hk:∀x∈(W7 env cs).todo,okt x∧zkv x:=by
  intro x hx
  obtain⟨c,hcm,rfl⟩:=List.mem_map.1 hx
  obtain⟨s,hs,hr⟩:=vF _ _ _ hc c (List.mem_reverse.1 hcm)
  have hsl:=W3 hs
  obtain⟨g1,g2,g3,g4,g5⟩:=zh3 hr
  refine⟨⟨g1,by omega,fun w hw=>by have:=g3 w hw;omega⟩,?_⟩
  intro hw
  cases g1 with
  | read p rs=>exact g5 p rs (.inl rfl)
  | try_ p rs=>exact g5 p rs (.inr (.inl rfl))
  | scan p w rs=>exact g4 p w rs rfl
  | write p rs=>exact g5 p rs (.inr (.inr rfl))
  | env a rs=>revert hw;simp[yO,zZ,w8,jT]
  | need a rs=>revert hw;simp[kG,zZ,w8,jT]
  | keep a rs=>revert hw;simp[wQ,zZ,w8,jT]
  | sort rs=>revert hw;simp[wP,zZ,w8,jT]
  | uniq rs=>revert hw;simp[y4,zZ,w8,jT]
  | upper rs=>revert hw;simp[kV,zZ,w8,jT]
  | count rs=>revert hw;simp[kY,zZ,w8,jT]
  | fail rs=>revert hw;simp[yR,zZ,w8,jT]
  | text rs=>revert hw;simp[tText,zZ,w8,jT]
 exact⟨⟨zak env cs hl,fun x hx=>(hk x hx).1,h1,h2⟩,⟨fun x hx=>(hk x hx).2,fun e=>by cases e⟩⟩
theorem za8 {t:Txt} {cs:List CmdV} (h:j7 t=.ok cs) {env:List (Txt × Txt)} (h1:env.length≤1000000000) (h2:∀x∈env,x.2.length≤1000000000000000) (outs:List Txt) (may:Txt→Bool):ZJ (CE env outs may cs):=by
 obtain⟨g1,g2⟩:=zfn h h1 h2
 exact⟨g1,g2,⟨.inl rfl,fun e=>rfl⟩,by show (0:Int)≠2;decide⟩
structure zky (a:xW):Prop where
 bt:a.tool.length≤1000000
 be:a.env.length≤1000000
 bev:∀x∈a.env,x.2.length≤1000000000000000
 bi:a.ins.length≤1000000
 ba:a.asks.length≤1000000
 bae:∀x∈a.asks,x.length≤900000
 bo:a.outs.length≤1000000
noncomputable def jI (a:xW):Txt→Bool:=pJ a.outs a.ins a.asks
def zes (a:xW) (r:TV) (H':q8):Prop:=match j7 a.tool with
 | .error (e,_)=>r=.tup [(.ptr,.nilptr),(.int .i64,.i .i64 e)]∧H'=[]
 | .ok cs=>∃B,r=.tup [(.ptr,.ptr B KD []),(.int .i64,.i .i64 0)]∧jJ B (ZR a.env a.outs (jI a) cs) H'
theorem jJ.er {B:Nat} {b:zGo} {H:q8} (h:jJ B b H):H.er=H:=by
 obtain⟨q,hq,rfl⟩:=h
 exact(hq.er B).1
set_option maxHeartbeats 16000000 in
theorem DZ (a:xW) (hb:zky a):q7 Tryz.prog 9 [.av UI (kT a)] [] (zes a):=by
 obtain⟨ht,he,hev,h1,h2,h2e,h3⟩:=hb
 have hce:=cO a.env he
 have hst:=zig a.tool ht a.env he
 have hea:=v8 a.env
 unfold zes
 refine q7.of_at laid Tryz.func9 rfl (by simp[Tryz.ntmps9]) fun imm0 w0=>?_
 refine AT.seq ?_
 refine qM (cf:=zeA) laid mixed _ _ _ (by kernel_rfl) ?_
 simp (disch:=omega) [zz,kT]
 refine AT.seq ?_
 refine qM (cf:=zeA) laid mixed _ _ _ (by kernel_rfl) ?_
 simp (disch:=omega) [zz]
 refine jW.ofK [0,1,2,3,4,5,6,7,8,9,10] [] [] (by kernel_rfl) ?_
 simp (disch:=omega) [zz]
 (repeat with_reducible refine om ?_)
 refine jC hce rfl rfl (by simp) (by simp[qS,TV.er,hea]) ?_
 simp (disch:=omega) [zz]
 (repeat with_reducible refine om ?_)
 refine jP (R:=dS a.tool a.env) rfl (by simp[qQ]) (by simp) ?_ ?_
 ·simpa[TV.er,AV.er,hea,q8.er_nil]using hst
 intro r H' hsp
 unfold dS at hsp
 cases hcv:j7 a.tool with
 | error en =>
  obtain⟨e,n⟩:=en
  rw[hcv]at hsp
  obtain⟨rfl,rfl⟩:=hsp
  have hne:¬e=0:=by rcases Z8 hcv with h|h<;>omega
  simp (disch:=omega) [zz]
  (repeat with_reducible refine om ?_)
  refine AT.seq ?_
  refine qM (cf:=zeA) laid mixed _ _ _ (by kernel_rfl) ?_
  simp (disch:=omega) [zz,hne]
  simp (disch:=omega) [zz,Tryz.f9]
 | ok cs =>
  rw[hcv]at hsp
  obtain⟨R,rfl,hrun⟩:=hsp
  have hle:=y8 hcv
  have hre:=hrun.er
  have hcl:=x8 a.outs h3
  have hrd:=zhs a h1 h2 h3
  have hgo:=(V7 (zeZ a.env a.outs (jI a) cs hle)).1
  have hgood:=za8 hcv (env:=a.env) (by omega) hev a.outs (jI a)
  simp (disch:=omega) [zz]
  (repeat with_reducible refine om ?_)
  refine AT.seq ?_
  refine qM (cf:=zeA) laid mixed _ _ _ (by kernel_rfl) ?_
  simp (disch:=omega) [zz]
  refine AT.seq ?_
  have fin:∀(B W bo bi ba:Nat) (H0:q8),H0.Perm ((B,zO R a.outs (jA bo bi ba) W .nsl [] false 0)::(W,wrO [])::(W8 bo bi ba a.outs a.ins a.asks++H'))→∃H2,H0.Perm H2∧jJ B (CE a.env a.outs (jI a) cs) H2:=by
   intro B W bo bi ba H0 hp
   refine⟨_,hp,⟨R,H',W,bo,bi,ba,a.ins,a.asks,.nsl,[]⟩,⟨hrun,.inl ⟨rfl,rfl,rfl⟩,rfl,⟨h3,h1,h2,h2e⟩⟩,?_⟩
   simp[J3.core,J3.M,CE]
  refine AT.two (cf:=zeA) laid mixed [0,1,2,3,4] 5 6 [6,7,8,9] [5,7,8,9] [0,1,2,3,4] (by kernel_rfl) (by kernel_rfl) (by decide) (by kernel_rfl) (by kernel_rfl) ?_
  simp (disch:=omega) [zz,zgJ,zhB,gQ,D7,zdi,isLt,zjb]
  (repeat with_reducible refine om ?_)
  have hae:(AV.agg [.agg [.s a.pkg,.s a.name],.s a.tool,zS a.env,.sl .no (strs a.ins),.sl .no (strs a.asks),.sl .no (strs a.outs)]).er=kT a:=YB a
  refine⟨_,hcl,by kernel_rfl,by kernel_rfl,⟨by kernel_rfl,?_⟩,by kernel_rfl,?_⟩
  ·refine qE (R:=fun r H'=>∃bo bi ba,r=.av .func (jA bo bi ba)∧H'=W8 bo bi ba a.outs a.ins a.asks) [] H' (by simp) rfl (by simp[qQ]) (by simp) ?_ ?_
   ·have hrd':=hrd
    simp only[kT]at hrd'
    simpa[TV.er,AV.er,AV.ers,hea]using hrd'
   rintro r2 H2 ⟨bo,bi,ba,rfl,rfl⟩ hnd
   refine⟨_,HSub.refl _,?_⟩
   refine⟨by kernel_rfl,by kernel_rfl,?_⟩
   simp (disch:=omega) [zz,gQ,D7,zjb]
   intro W w1 w2
   refine⟨by kernel_rfl,by kernel_rfl,by kernel_rfl,?_⟩
   intro B x1 x2 x3
   obtain⟨H2,hp2,hH2⟩:=fin B W bo bi ba _ (List.Perm.refl _)
   refine qM (cf:=zeA) laid mixed _ _ _ (by kernel_rfl) ?_
   simp (disch:=omega) [zz]
   refine qE (R:=fun y H'=>y=.tup []∧jJ B (ZR a.env a.outs (jI a) cs) H') H2 [] (by simpa[zO,wrO,wrE]using hp2) rfl (by simp[qQ]) (by simp) ?_ ?_
   ·rw[hH2.er]
    have hgo2:=WP B hH2 hgood _ hgo
    rw[show yQ (CE a.env a.outs (jI a) cs)=ZR a.env a.outs (jI a) cs from rfl]at hgo2
    simpa[TV.er,AV.er]using hgo2
   rintro y H9 ⟨rfl,hfin⟩ _
   refine⟨H9,by simpa using HSub.refl _,?_⟩
   have hfe:=hfin.er
   simp (disch:=omega) [zz,hfe,Tryz.f9]
   exact hfin
  ·intro W w1
   refine⟨by kernel_rfl,by kernel_rfl,?_⟩
   refine qE (R:=fun r H'=>∃bo bi ba,r=.av .func (jA bo bi ba)∧H'=W8 bo bi ba a.outs a.ins a.asks) [] ((W,.map 9 9 [])::H') (by simp) rfl (by simp[qQ]) (by simp) ?_ ?_
   ·have hrd':=hrd
    simp only[kT]at hrd'
    simpa[TV.er,AV.er,AV.ers,hea]using hrd'
   rintro r2 H2 ⟨bo,bi,ba,rfl,rfl⟩ hnd
   refine⟨_,HSub.refl _,?_⟩
   simp (disch:=omega) [zz,gQ,D7,zjb]
   refine⟨by kernel_rfl,by kernel_rfl,by kernel_rfl,?_⟩
   intro B x1 x2 x3
   obtain⟨H2,hp2,hH2⟩:=fin B W bo bi ba ((B,zO R a.outs (jA bo bi ba) W .nsl [] false 0)::(W8 bo bi ba a.outs a.ins a.asks++(W,wrO [])::H')) (by
    refine List.perm_iff_count.2 fun a=>?_
    simp only[List.count_append,List.count_cons];omega)
   refine qM (cf:=zeA) laid mixed _ _ _ (by kernel_rfl) ?_
   simp (disch:=omega) [zz]
   refine qE (R:=fun y H'=>y=.tup []∧jJ B (ZR a.env a.outs (jI a) cs) H') H2 [] (by simpa[zO,wrO,wrE]using hp2) rfl (by simp[qQ]) (by simp) ?_ ?_
   ·rw[hH2.er]
    have hgo2:=WP B hH2 hgood _ hgo
    rw[show yQ (CE a.env a.outs (jI a) cs)=ZR a.env a.outs (jI a) cs from rfl]at hgo2
    simpa[TV.er,AV.er]using hgo2
   rintro y H9 ⟨rfl,hfin⟩ _
   refine⟨H9,by simpa using HSub.refl _,?_⟩
   have hfe:=hfin.er
   simp (disch:=omega) [zz,hfe,Tryz.f9]
   exact hfin
end Go.Proofs.YtooipdkilgpojaaGreatDoor
end
