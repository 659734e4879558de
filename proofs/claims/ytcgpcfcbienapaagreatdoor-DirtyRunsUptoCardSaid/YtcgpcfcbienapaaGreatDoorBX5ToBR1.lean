/- A box is asked; what came of it. No condition beyond each theorem's own. -/
import Derived.Test.YtcgpcfcbienapaaGreatDoorBX2ToBX6
import Derived.Test.YtcgpcfcbienapaaGreatDoorBR0ToS8
import Derived.Test.YtcgpcfcbienapaaGreatDoorRW3ToK6
set_option linter.unusedSimpArgs false
set_option linter.unusedVariables false
set_option linter.unusedSectionVars false
section
set_option maxRecDepth 100000
namespace Go.Proofs.YtcgpcfcbienapaaGreatDoor
open Go Go.Ab
open Classical
variable [Sel] [SelPow] [SelMax]
theorem J3.split {q:J3} {b:zCU} (hq:q.OK b) (B:Nat):∃M:q8,q.core B b=(B,zO q.R b.outs (jA q.bo q.bi q.ba) q.W q.rd b.asks b.over b.why)::M∧M.er=M:=by
 obtain⟨_,hMe,hHe,_⟩:=hq.er B
 exact⟨(q.W,wrO b.wrote)::(q.M b++q.HR),rfl,by simp only[q8.er_cons,q8.er_app,hMe,hHe,QZ]⟩
theorem zci (B:Nat) {b:zCU} {H:q8} (hH:jJ B b H) :
  q7 Tryz.prog 18 [.av .ptr (.ptr B KD [])] H fun y H'=>y=.tup [(.str,.s (if b.over=true then [] else b.asks)),(.bool,.b (!b.over))]∧jJ B b H':=by
 obtain⟨q,hq,rfl⟩:=hH
 obtain⟨_,_,_,hre⟩:=hq.er B
 obtain⟨M,hM,hMe⟩:=J3.split hq B
 refine q7.sub (R:=fun y H'=>y=.tup [(.str,.s (if b.over=true then [] else b.asks)),(.bool,.b (!b.over))]∧∃H2,Ab.HSub H2 H'∧H2=q.core B b) ?_ fun y H' ⟨h1,H2,h2,h3⟩ _=>⟨H2,h2,h1,q,hq,h3⟩
 rw[hM]
 obtain⟨ov,hov⟩:∃ov,ov=b.over:=⟨_,rfl⟩
 rw[←hov]
 cases ov with
 | true =>
  refine zov Tryz.func18 cf0 fun imm0 w0=>?_
  simp (disch:=omega) [zz,zO]
  simp (disch:=omega) [zz,hMe,hre,jA,Tryz.f18]
  exact HSub.refl _
 | false =>
  refine zov Tryz.func18 cf0 fun imm0 w0=>?_
  simp (disch:=omega) [zz,zO]
  simp (disch:=omega) [zz,hMe,hre,jA,Tryz.f18]
  exact HSub.refl _
abbrev zro:Cfg:=⟨fun _=>false,fun n=>n==5⟩
theorem zfz (l:List Read) (b cap:Nat) (j:List AV) (hj:JK j) (hcap:l.length+j.length=cap) (hn:l.length≤1000) :
  q7 Tryz.prog 30 [.av (.slice 54) (.msl b 54 0 l.length cap)] [(b,kR cap l j)]
   fun r H'=>r=.av (.slice 54) (qF l)∧H'=[(b,kR cap l j)]:=by
 have htk:(l.map qI++j).take l.length=l.map qI:=by rw[List.take_append_of_le_length (by simp)];exact List.take_of_length_le (by simp)
 have her:AV.erks (l.map qI++j)=l.map qI++j:=JK.app (UF l) hj
 have h1:q7 Tryz.prog 30 [.av (.slice 54) (.msl b 54 0 l.length cap)] [(b,kR cap l j)]
   fun r H'=>∃b' cap' j',JK j'∧l.length+j'.length=cap'∧r=.av (.slice 54) (.msl b' 54 0 l.length cap')∧H'=[(b',kR cap' l j'),(b,kR cap l j)]:=by
  refine q7.sub (R:=fun r H'=>∃b' cap' j',JK j'∧l.length+j'.length=cap'∧r=.av (.slice 54) (.msl b' 54 0 l.length cap')∧HSub [(b',kR cap' l j'),(b,kR cap l j)] H') ?_ fun r H' ⟨b',cap',j',h1,h2,h3,h4⟩ _=>⟨_,h4,b',cap',j',h1,h2,h3,rfl⟩
  refine zov Tryz.func30 zro fun imm0 w0=>?_
  simp (disch:=omega) [zz,-List.reduceReplicate,kR]
  intro b5 hb5
  simp (disch:=omega) [zz,-List.reduceReplicate,hb5,htk]
  have hb5':¬b=b5:=fun e=>hb5 e.symm
  refine⟨by omega,⟨by omega,by omega⟩,fun h0=>?_,fun h0 b' cap' h1 h2 hc=>?_⟩
  ·have:l=[]:=by
    rcases h0 with h0|h0
    ·exact h0
    ·simpa using h0.1
   subst this
   (simp (maxSteps:=2000000) (disch:=first|omega|assumption) [zz,-List.reduceReplicate,Tryz.f30,hj,her])
   refine⟨b5,0,[],JK.nil,by simp,by simp,HSub.of_sub ?_⟩
   have:AV.erks j=j:=hj
   simp[this]
  ·have hz:=JK.app (UF l) (JK.rep (z:=.agg [.s [],.b false,.agg (List.replicate 32 (.i .u8 0))]) (by rfl) (cap'-l.length))
   unfold JK at hz
   (simp (maxSteps:=2000000) (disch:=first|omega|assumption) [zz,-List.reduceReplicate,Tryz.f30,hz,her])
   refine⟨b',cap',List.replicate (cap'-l.length) (.agg [.s [],.b false,.agg (List.replicate 32 (.i .u8 0))]),JK.rep rfl _,by simp;omega,⟨rfl,rfl⟩,⟨_,List.Perm.refl _,?_⟩⟩
   exact((List.Sublist.refl _).cons _).cons_cons _
 refine h1.freeze laid ?_
 rintro r H' ⟨b',cap',j',hj',hc',rfl,rfl⟩ _
 left
 refine⟨b',cap',54,_,[(b,kR cap l j)],List.Perm.refl _,?_,rfl⟩
 simp only[zho,fzA]
 rw[if_pos ⟨trivial,trivial,by omega,by omega⟩]
 simp only[List.drop_zero]
 rw[List.take_append_of_le_length (by simp),List.take_of_length_le (by simp)]
 rfl
theorem zfo (l:List Read) (rd:AV) (RD:q8) (h:cM l rd RD) (hn:l.length≤1000) :
  q7 Tryz.prog 30 [.av (.slice 54) rd] RD fun r H'=>r=.av (.slice 54) (qF l)∧H'=RD:=by
 rcases h with⟨rfl,rfl,rfl⟩|⟨T,cap,j,hj,rfl,hc,rfl⟩
 ·refine zov Tryz.func30 cf0 fun imm0 w0=>?_
  simp (disch:=omega) [zz,Tryz.f30,qF]
 ·exact zfz l T cap j hj hc hn
def tkS (s k:Nat):Tok:=match k with|0=>.full|k+1=>.own s (k+1)
noncomputable def foB (l:List (Txt × Txt)) (p:Txt):U1:=⟨p,((l.find? fun x=>decide (x.1=p)).getD ([],[])).2⟩
abbrev zhS:Cfg:=⟨fun _=>false,fun n=>n==52⟩
set_option maxHeartbeats 16000000 in
theorem QN (B:Nat) {b:zCU} {H:q8} (hH:jJ B b H) (hr:b.reads.length≤1000) (hw:b.wrote.length≤1000000) :
  q7 Tryz.prog 20 [.av .ptr (.ptr B KD [])] H fun y H'=>y=.tup [(qD Tryz.prog 41,zI (yD b).1),(.bool,.b (yD b).2)]∧jJ B b H':=by
 obtain⟨q,hq,rfl⟩:=hH
 obtain⟨_,hMe0,hHe,hre⟩:=hq.er B
 refine q7.sub (R:=fun y H'=>y=.tup [(qD Tryz.prog 41,zI (yD b).1),(.bool,.b (yD b).2)]∧∃H2,Ab.HSub H2 H'∧H2=q.core B b) ?_ fun y H' ⟨h1,H2,h2,h3⟩ _=>⟨H2,h2,h1,q,hq,h3⟩
 by_cases ho:b.over=true
 rotate_left
 ·have ho':b.over=false:=by simpa using ho
  obtain⟨M,hM,hMe⟩:=J3.split hq B
  rw[hM]
  refine zov Tryz.func20 zhS fun imm0 w0=>?_
  simp (disch:=omega) [zz,zO,ho']
  simp (disch:=omega) [zz,hMe,hre,jA,Tryz.f20,yD,ho',zI,zU,qF]
  exact HSub.refl _
 refine q7.nodup fun hnd=>?_
 simp[J3.core,q8.keys]at hnd
 obtain⟨⟨n1,n2⟩,n3⟩:=hnd
 have n1':¬q.W=B:=fun e=>n1 e.symm
 obtain⟨M,hM⟩:∃M:q8,M=W8 q.bo q.bi q.ba b.outs q.ins q.ask++q.HR:=⟨_,rfl⟩
 have hMe:M.er=M:=by rw[hM,q8.er_app,hHe,vQ]
 have hp1:(q.core B b).Perm ((B,zO q.R b.outs (jA q.bo q.bi q.ba) q.W q.rd b.asks b.over b.why)::(q.W,wrO b.wrote)::(q.RD++M)):=by
  refine List.perm_iff_count.2 fun a=>?_
  simp only[J3.core,J3.M,hM,List.count_append,List.count_cons];omega
 have hRe:=hq.reads.er.1
 have hcl:=zfo b.reads q.rd q.RD hq.reads hr
 have hwe:=QZ b.wrote
 have hers:AV.ers (b.reads.map qI)=b.reads.map qI:=by simp[AV.ers_eq,Function.comp_def]
 refine q7.perm hp1 ?_
 obtain⟨rd,hrd⟩:∃rd,rd=q.rd:=⟨_,rfl⟩
 have hrer:rd.er=rd:=by
  rw[hrd]
  rcases hq.reads with⟨_,e,_⟩|⟨T,cap,j,_,e,_⟩<;>rw[e]<;>rfl
 rw[←hrd]at hcl hre hp1 ⊢
 have back:∀H':q8,Ab.HSub ((B,zO q.R b.outs (jA q.bo q.bi q.ba) q.W rd b.asks b.over b.why)::(q.W,wrO b.wrote)::(q.RD++M)) H'→Ab.HSub (q.core B b) H':=fun H' h=>YX (HSub.of_perm hp1.symm) h
 have hcp:((B,zO q.R b.outs (jA q.bo q.bi q.ba) q.W rd b.asks b.over b.why)::(q.W,wrO b.wrote)::(q.RD++M)).Perm (q.RD++(B,zO q.R b.outs (jA q.bo q.bi q.ba) q.W rd b.asks b.over b.why)::(q.W,wrO b.wrote)::M):=by
  refine List.perm_iff_count.2 fun a=>?_
  simp only[List.count_append,List.count_cons];omega
 by_cases hy:b.why=0
 rotate_left
 ·refine zov Tryz.func20 zhS fun imm0 w0=>?_
  simp (disch:=omega) [zz,zO,ho,n1,n1']
  (repeat with_reducible refine om ?_)
  refine UL (r:=.av (.slice 54) (qF b.reads)) (bs:=[.av (.slice 54) rd]) q.RD ((B,zO q.R b.outs (jA q.bo q.bi q.ba) q.W rd b.asks b.over b.why)::(q.W,wrO b.wrote)::M) ?_ (by rw[hRe];exact hcl) rfl (by simp[qQ]) (by simp) ?_ ?_
  ·simpa[zO,ho]using hcp
  ·simp[qS,TV.er,hrer]
  simp (disch:=omega) [zz,zO,ho,hy,n1,n1']
  have hme:(jA q.bo q.bi q.ba).erk=jA q.bo q.bi q.ba:=rfl
  have ho1:yD b=(⟨2,b.why,[],b.reads⟩,true):=by unfold yD;rw[if_neg (by rw[ho];decide),if_neg hy]
  simp (disch:=omega) [zz,hMe,hRe,hre,hwe,hme,ho1,hers,zI,zU,qF,Tryz.f20,ho]
  (repeat with_reducible refine om ?_)
  refine back _ ?_
  simp only[zO,ho]
  exact HSub.refl _
 ·refine zov Tryz.func20 zhS fun imm0 w0=>?_
  simp (disch:=omega) [zz,zO,ho,n1,n1']
  (repeat with_reducible refine om ?_)
  refine UL (r:=.av (.slice 54) (qF b.reads)) (bs:=[.av (.slice 54) rd]) q.RD ((B,zO q.R b.outs (jA q.bo q.bi q.ba) q.W rd b.asks b.over b.why)::(q.W,wrO b.wrote)::M) ?_ (by rw[hRe];exact hcl) rfl (by simp[qQ]) (by simp) ?_ ?_
  ·simpa[zO,ho]using hcp
  ·simp[qS,TV.er,hrer]
  simp (disch:=omega) [zz,zO,ho,hy,n1,n1']
  (repeat with_reducible refine om ?_)
  have hme:(jA q.bo q.bi q.ba).erk=jA q.bo q.bi q.ba:=rfl
  have ho1:yD b=(⟨1,0,ZH b,b.reads⟩,true):=by unfold yD;rw[if_neg (by rw[ho];decide),if_pos hy]
  obtain⟨bo,hbo⟩:∃bo,bo=zO q.R b.outs (jA q.bo q.bi q.ba) q.W rd b.asks b.over b.why:=⟨_,rfl⟩
  have hbo':HObj.var KD (.agg [.ptr q.R kQ [],.sl .no (strs b.outs),jA q.bo q.bi q.ba,.map (some q.W),rd,.s b.asks,.b true,.i .i64 0])=bo:=by rw[hbo,zO,ho,hy]
  have hboe:bo.er=bo:=by rw[hbo];exact J2 hme hre
  rw[←hbo]at back
  have hbo2:=hbo'
  refine qE (R:=fun r H'=>∃c,r=.av .func (.fn 78 [.ptr c WrT []])∧H'=[(c,wbO q.W)]) [] ((B,bo)::(q.W,wrO b.wrote)::(q.RD++M)) (by rw[←hbo'];exact List.Perm.refl _) rfl (by simp[qQ]) (by simp) ?_ ?_
  ·have:=zk4 q.W
   simpa[TV.er,AV.er,AV.ers,q8.er_nil]using this
  rintro r' H' ⟨c,rfl,rfl⟩ hnd
  simp[q8.keys]at hnd
  have hcW:c≠q.W:=hnd.1.2.1
  have hcB:¬c=B:=hnd.1.1
  have hcB':¬B=c:=fun e=>hcB e.symm
  refine⟨_,HSub.refl _,?_⟩
  simp (disch:=omega) [zz]
  have hwb:(wbO q.W).er=wbO q.W:=rfl
  obtain⟨ks,hks⟩:∃ks,ks=kK (b.wrote.map (·.1)):=⟨_,rfl⟩
  have hkl:ks.length≤1000000:=by rw[hks,ZO];simpa using hw
  refine qE (R:=wS (b.wrote.map (·.1)) [(q.W,wrO b.wrote),(c,wbO q.W)]) [(q.W,wrO b.wrote),(c,wbO q.W)] ((B,bo)::(q.RD++M)) ?_ rfl (by simp[qQ]) (by simp) ?_ ?_
  ·refine List.perm_iff_count.2 fun a=>?_
   simp only[List.count_append,List.count_cons,List.count_nil];omega
  ·have:=ze9 (zz8 c q.W hcW b.wrote) (by simpa using hw)
   simpa[TV.er,AV.er,AV.ers,q8.er_cons,q8.er_nil,hwe,hwb]using this
  rintro r' H' ⟨v,H1,rfl,hrow,rfl⟩ hnd2
  rw[←hks]at hrow
  have hmem:∀p∈ks,p∈b.wrote.map (·.1):=fun p hp=>by rw[hks]at hp;exact(W0 _).mem_iff.1 hp
  have hob:ZH b=ks.map (foB b.wrote):=by rw[hks];rfl
  rcases hrow with⟨hk0,rfl,rfl⟩|⟨T,cap,j,hj,rfl,hcap,rfl⟩
  ·refine⟨(B,bo)::(q.W,wrO b.wrote)::(q.RD++M),⟨(c,wbO q.W)::(B,bo)::(q.W,wrO b.wrote)::(q.RD++M),?_,(List.Sublist.refl _).cons _⟩,?_⟩
   ·refine List.perm_iff_count.2 fun a=>?_
    simp only[List.count_append,List.count_cons,List.count_nil];omega
   simp (disch:=omega) [zz]
   rw[←hbo2]
   refine AT.loop' (α:=Nat) (fun k=>St.of [(0,.av .ptr (.ptr B KD [])),(2,.loc 2 []),(4,.loc 4 []),(35,.av (.int .i64) (.i .i64 0)),(36,.av (.int .i64) (.i .i64 k))] [(2,(qD Tryz.prog 41,.agg [.i .i64 0,.i .i64 0,.sl .full [],.sl .full []])),(4,(qD Tryz.prog 41,.agg [.i .i64 1,.i .i64 0,.sl .full [],qF b.reads]))] (fun _=>0) ((B,.var KD (.agg [.ptr q.R kQ [],.sl .no (strs b.outs),jA q.bo q.bi q.ba,.map (some q.W),rd,.s b.asks,.b true,.i .i64 0]))::(q.W,wrO b.wrote)::(q.RD++M)))
    (fun k=>k=0) (fun _=>0) 0 ?_ ?_ ?_
   ·apply Le.of<;>simp[qU,qG,zX]<;>try omega
   ·rfl
   rintro k rfl KL hN hE
   refine qM (cf:=zhS) laid mixed _ _ _ (by kernel_rfl) ?_
   simp (disch:=omega) [zz]
   refine hE _ _ (by simp) ?_
   have hob2:ZH b=[]:=by rw[hob,hk0];rfl
   simp (disch:=omega) [zz,hMe,hRe,hre,hwe,hme,ho1,hob2,hers,zI,zU,qF,Tryz.f20]
   refine back _ ?_
   rw[←hbo']
   exact HSub.refl _
  ·have hTn:T≠q.W∧T≠c∧T≠B:=by
    simp[q8.keys]at hnd2
    exact⟨hnd2.1.1,hnd2.1.2.1,hnd2.1.2.2.1⟩
   obtain⟨nT1,nT2,nT3⟩:=hTn
   have nT1':¬q.W=T:=fun e=>nT1 e.symm
   have nT3':¬B=T:=fun e=>nT3 e.symm
   have hrk:=KE (cap:=cap) (ts:=ks) hj
   have hgA:=fun(k:Nat) (h:k<ks.length)=>YT ks j k h
   refine⟨(T,wY cap ks j)::(B,bo)::(q.W,wrO b.wrote)::(q.RD++M),⟨(c,wbO q.W)::(T,wY cap ks j)::(B,bo)::(q.W,wrO b.wrote)::(q.RD++M),?_,(List.Sublist.refl _).cons _⟩,?_⟩
   ·refine List.perm_iff_count.2 fun a=>?_
    simp only[wY,List.count_append,List.count_cons,List.count_nil];omega
   simp (disch:=omega) [zz]
   rw[←hbo2]
   refine AT.loop' (α:=Nat) (fun k=>St.of [(0,.av .ptr (.ptr B KD [])),(2,.loc 2 []),(4,.loc 4 []),(34,.av (.slice 9) (.msl T 9 0 ks.length cap)),(35,.av (.int .i64) (.i .i64 ks.length)),(36,.av (.int .i64) (.i .i64 k))]
     [(2,(qD Tryz.prog 41,.agg [.i .i64 0,.i .i64 0,.sl .full [],.sl .full []])),(4,(qD Tryz.prog 41,.agg [.i .i64 1,.i .i64 0,.sl (tkS 51 k) ((ks.take k).map fun p=>jZ (foB b.wrote p)),qF b.reads]))] (fun j=>if j=51 then k else 0)
     ((T,wY cap ks j)::(B,.var KD (.agg [.ptr q.R kQ [],.sl .no (strs b.outs),jA q.bo q.bi q.ba,.map (some q.W),rd,.s b.asks,.b true,.i .i64 0]))::(q.W,wrO b.wrote)::(q.RD++M)))
    (fun k=>k≤ks.length) (fun k=>ks.length-k) 0 ?_ ?_ ?_
   ·apply Le.of<;>simp[qU,qG,tkS]<;>try omega
   ·omega
   rintro k hk KL hN hE
   refine qM (cf:=zhS) laid mixed _ _ _ (by kernel_rfl) ?_
   by_cases hlt:k<ks.length
   ·have hlt':(k:Int)<ks.length:=by omega
    have hg:=hgA k hlt
    have hst:((ks.take (k+1)).map fun p=>jZ (foB b.wrote p))=((ks.take k).map fun p=>jZ (foB b.wrote p))++[jZ (foB b.wrote ks[k])]:=by
     rw[List.take_succ_eq_append_getElem hlt,List.map_append];rfl
    have htl:((ks.take k).map fun p=>jZ (foB b.wrote p)).length=k:=by rw[List.length_map,List.length_take];omega
    obtain⟨x,hx⟩:=zcf (hmem ks[k] (List.getElem_mem hlt))
    have hmf:=VO ks[k] b.wrote
    rw[hx]at hmf
    have hfo:jZ (foB b.wrote ks[k])=.agg [.s ks[k],.s x.2]:=by
     unfold foB jZ;simp[hx]
    rw[hfo]at hst
    obtain⟨p,hp⟩:∃p,p=ks[k]:=⟨_,rfl⟩
    rw[←hp]at hg hst hmf
    cases k with
    | zero =>
     have hlt':(0:Int)<ks.length:=by omega
     simp (disch:=omega) [zz,hlt',hlt,hg,hmf,tkS,wY,wrO,nT1,nT1',nT3,nT3',n1,n1']
     (repeat with_reducible refine om ?_)
     simp (disch:=omega) [zz,wB]
     (repeat with_reducible refine om ?_)
     refine hN _ 1 ?_ (by omega) (by omega)
     rw[hst]
     apply Le.of<;>simp[qU,qG,tkS,wY,wrO]<;>try omega
     all_goals (intro j;by_cases hj:j=51<;>simp[hj])
    | succ k =>
     have hlt':(k:Int)+1<ks.length:=by omega
     have hge:(0:Int)≤(k:Int)+1:=by omega
     simp (disch:=omega) [zz,hlt',hlt,hg,hmf,tkS,wY,wrO,nT1,nT1',nT3,nT3',n1,n1']
     (repeat with_reducible refine om ?_)
     simp (disch:=omega) [zz,wB,htl]
     (repeat with_reducible refine om ?_)
     refine hN _ (k+2) ?_ (by omega) (by omega)
     rw[hst]
     apply Le.of<;>simp[qU,qG,tkS,wY,wrO]<;>try omega
     all_goals (intro j;by_cases hj:j=51<;>simp[hj])
   ·have hkn:k=ks.length:=by omega
    subst hkn
    have hlt':¬(ks.length:Int)<ks.length:=by omega
    simp (disch:=omega) [zz,hlt']
    refine hE _ _ (by simp) ?_
    have hfin:((ks.take ks.length).map fun p=>jZ (foB b.wrote p))=(ZH b).map jZ:=by rw[List.take_length,hob,List.map_map];rfl
    have hen:AV.ers (ks.map fun p=>jZ (foB b.wrote p))=(ZH b).map jZ:=by rw[hob,List.map_map];simp[AV.ers_eq,Function.comp_def]
    simp (disch:=omega) [zz,hMe,hRe,hre,hwe,hme,hrk,ho1,hen,hers,zI,zU,qF,Tryz.f20]
    refine back _ ?_
    rw[←hbo']
    exact HSub.of_sub ((List.Sublist.refl _).cons _)
abbrev zeJ:Cfg:=⟨fun _=>false,fun n=>n==1000010||n==2000048||n==2000050||n==1000011||n==2000056⟩
noncomputable def zE0 (k:KnV) (b:zCU):zCU:={ b with reads:=b.reads++[J9 k],run:=(QB k b.run).2 }
structure zg6 (k:KnV) (b:zCU):Prop where
 give:(QB k b.run).1=0
 good:ZJ (zE0 k b)
 go:∃n,goN n (zE0 k b)=some (yQ (zE0 k b))
set_option maxHeartbeats 32000000 in
theorem dW (B:Nat) {b:zCU} {H:q8} (hH:jJ B b H) (hg:ZJ b) (k:KnV) (hkl:k.data.length≤1000000000000000) (hr:b.reads.length≤1000)
  (hgo:b.over=false→k.path=b.asks→¬(k.is=true∧65536<k.data.length)→zg6 k b) :
  q7 Tryz.prog 19 [.av .ptr (.ptr B KD []),.av KnT (zH k)] H fun y H'=>y=.av (.int .i64) (.i .i64 (kB k b).1)∧jJ B (kB k b).2 H':=by
 obtain⟨q,hq,rfl⟩:=hH
 obtain⟨_,hMe0,hHe,hre⟩:=hq.er B
 obtain⟨M,hM,hMe⟩:=J3.split hq B
 by_cases ho:b.over=true
 ·have hv:kB k b=(19,b):=by unfold kB;exact if_pos ho
  rw[hv]
  refine q7.sub (R:=fun y H'=>y=.av (.int .i64) (.i .i64 19)∧∃H2,Ab.HSub H2 H'∧H2=q.core B b) ?_ fun y H' ⟨h1,H2,h2,h3⟩ _=>⟨H2,h2,h1,q,hq,h3⟩
  rw[hM]
  refine zov Tryz.func19 zeJ fun imm0 w0=>?_
  simp (disch:=omega) [zz,zH,zO,ho]
  simp (disch:=omega) [zz,hMe,hre,jA,Tryz.f19,ho]
  exact HSub.refl _
 have ho':b.over=false:=by simpa using ho
 by_cases hp:k.path=b.asks
 rotate_left
 ·have hv:kB k b=(1,b):=by unfold kB;rw[if_neg ho,if_pos hp]
  rw[hv]
  refine q7.sub (R:=fun y H'=>y=.av (.int .i64) (.i .i64 1)∧∃H2,Ab.HSub H2 H'∧H2=q.core B b) ?_ fun y H' ⟨h1,H2,h2,h3⟩ _=>⟨H2,h2,h1,q,hq,h3⟩
  rw[hM]
  refine zov Tryz.func19 zeJ fun imm0 w0=>?_
  (simp (maxSteps:=2000000) (disch:=first|omega|assumption) [zz,-List.reduceReplicate,zH,zO,ho'])
  (repeat with_reducible refine om ?_)
  simp (disch:=omega) [zz,hp]
  simp (disch:=omega) [zz,hMe,hre,jA,Tryz.f19,ho']
  exact HSub.refl _
 by_cases hbig:k.is=true∧65536<k.data.length
 ·have hb':(65536:Int)<k.data.length:=by omega
  have hki:=hbig.1
  have hv:kB k b=(6,b):=by unfold kB;rw[if_neg ho,if_neg (by simp[hp]),if_pos hbig]
  rw[hv]
  refine q7.sub (R:=fun y H'=>y=.av (.int .i64) (.i .i64 6)∧∃H2,Ab.HSub H2 H'∧H2=q.core B b) ?_ fun y H' ⟨h1,H2,h2,h3⟩ _=>⟨H2,h2,h1,q,hq,h3⟩
  rw[hM]
  refine zov Tryz.func19 zeJ fun imm0 w0=>?_
  simp (disch:=omega) [zz,zH,zO,ho',hp,hki,hb']
  (repeat with_reducible refine om ?_)
  simp (disch:=omega) [zz,hMe,hre,jA,Tryz.f19,ho']
  exact HSub.refl _
 have hv:kB k b=(0,yQ (zE0 k b)):=by unfold kB;rw[if_neg ho,if_neg (by simp[hp]),if_neg hbig];rfl
 rw[hv]
 obtain⟨hgv,hgg,n,hgn⟩:=hgo ho' hp hbig
 obtain⟨r',hr'⟩:∃r',r'=(QB k b.run).2:=⟨_,rfl⟩
 have hgiv:=zmH q.R hq.run hg.good k (by omega)
 rw[hgv,←hr']at hgiv
 refine q7.nodup fun hnd=>?_
 obtain⟨rk,hrk⟩:∃rk,rk=J9 k:=⟨_,rfl⟩
 obtain⟨b1,hb1⟩:∃b1,b1=zE0 k b:=⟨_,rfl⟩
 have hb1':b1={ b with reads:=b.reads++[rk],run:=r' }:=by rw[hb1,hrk,hr'];rfl
 rw[←hb1]at hgg hgn ⊢
 refine q7.sub (R:=fun y H'=>y=.av (.int .i64) (.i .i64 0)∧∃H2,Ab.HSub H2 H'∧jJ B (yQ b1) H2) ?_ fun y H' ⟨h1,H2,h2,h3⟩ _=>⟨H2,h2,h1,h3⟩
 obtain⟨N,hN⟩:∃N:q8,N=(q.W,wrO b.wrote)::(W8 q.bo q.bi q.ba b.outs q.ins q.ask):=⟨_,rfl⟩
 have hNe:N.er=N:=by rw[hN,q8.er_cons,QZ,vQ]
 have hp1:(q.core B b).Perm ((B,zO q.R b.outs (jA q.bo q.bi q.ba) q.W q.rd b.asks b.over b.why)::(q.RD++(q.HR++N))):=by
  refine List.perm_iff_count.2 fun a=>?_
  simp only[J3.core,J3.M,hN,List.count_append,List.count_cons];omega
 have hnd1:(q8.keys ((B,zO q.R b.outs (jA q.bo q.bi q.ba) q.W q.rd b.asks b.over b.why)::(q.RD++(q.HR++N)))).Nodup:=(hp1.map Prod.fst).nodup_iff.1 hnd
  -- how it ends
 have fin:∀(rd':AV) (RD' HR':q8),cM (b.reads++[rk]) rd' RD'→z6 q.R r' HR'→∃H2,jJ B b1 H2∧((B,zO q.R b.outs (jA q.bo q.bi q.ba) q.W rd' b.asks b.over b.why)::(RD'++(HR'++N))).Perm H2:=by
  intro rd' RD' HR' h1 h2
  refine⟨({ q with rd:=rd',RD:=RD',HR:=HR' }:J3).core B b1,⟨{ q with rd:=rd',RD:=RD',HR:=HR' },⟨by rw[hb1'];exact h2,by rw[hb1'];exact h1,by rw[hb1'];exact hq.may,by rw[hb1'];exact hq.mb⟩,rfl⟩,?_⟩
  refine List.perm_iff_count.2 fun a=>?_
  rw[hb1']
  simp only[J3.core,J3.M,hN,List.count_append,List.count_cons];omega
 refine q7.perm hp1 ?_
 clear hnd hp1
 have hsum:=fun(h:k.is=true)=>znJ k.data (Nat.le_trans (Nat.le_of_not_lt fun e=>hbig ⟨h,e⟩) (by decide))
 have hrde:q.rd.er=q.rd:=by
  rcases hq.reads with⟨_,e,_⟩|⟨T,cap,j,_,e,_⟩<;>rw[e]<;>rfl
 have hme:(jA q.bo q.bi q.ba).erk=jA q.bo q.bi q.ba:=rfl
 have hzd:AV.agg (List.replicate 32 (.i .u8 0))=KW zero32:=by simp[KW,zero32]
 cases hki:k.is with
 | true =>
  have hb':¬(65536:Int)<k.data.length:=by
   intro h;exact hbig ⟨hki,by omega⟩
  have hrk2:rk=⟨k.path,true,sha k.data⟩:=by rw[hrk];simp[J9,hki]
  have hrkE:qI rk=AV.agg [.s b.asks,.b true,KW (sha k.data)]:=by rw[hrk2,hp];rfl
  rcases hq.reads with⟨hr0,hrd,hRD⟩|⟨T,cap,j,hj,hrd,hcap,hRD⟩
  ·rw[hRD,hrd]at hnd1 ⊢
   simp[q8.keys]at hnd1
   refine zov Tryz.func19 zeJ fun imm0 w0=>?_
   simp (disch:=omega) [zz,zH,zO,ho',hp,hki,hb']
   (repeat with_reducible refine om ?_)
   refine qL (hsum hki) rfl rfl (by simp) (by simp[qS,TV.er,AV.er,AV.ers,zfI]) ?_
   simp (disch:=omega) [zz,-List.reduceReplicate]
   refine jW.ofK [0,1,2,3,4,5,6,7,8,9,10] [0] [] (by kernel_rfl) ?_
   simp (disch:=omega) [zz,-List.reduceReplicate]
   (repeat with_reducible refine om ?_)
   intro bT cap' c1 c2 c3 c4
   have c1':¬B=bT:=fun e=>c1 e.symm
   (simp (maxSteps:=2000000) (disch:=first|omega|assumption) [zz,-List.reduceReplicate,c1,c1'])
   (repeat with_reducible refine om ?_)
   have hrow:[(bT,kR cap' (b.reads++[rk]) (List.replicate (cap'-1) (.agg [.s [],.b false,.agg (List.replicate 32 (.i .u8 0))])))]=[(bT,.var (.arr cap' 54) (.agg (AV.agg [.s b.asks,.b true,KW (sha k.data)]::List.replicate (cap'-1) (.agg [.s [],.b false,.agg (List.replicate 32 (.i .u8 0))]))))]:=by rw[hr0];simp[kR,hrkE]
   refine jW.ofK [0,1,2,3,4,5,6] [] [] (by kernel_rfl) ?_
   (simp (maxSteps:=2000000) (disch:=first|omega|assumption) [zz,-List.reduceReplicate,c1,c1'])
   (repeat with_reducible refine om ?_)
   refine qE (R:=fun y H'=>y=.av (.int .i64) (.i .i64 0)∧z6 q.R r' H') q.HR ((B,zO q.R b.outs (jA q.bo q.bi q.ba) q.W (.msl bT 54 0 1 cap') b.asks b.over b.why)::([(bT,kR cap' (b.reads++[rk]) (List.replicate (cap'-1) (.agg [.s [],.b false,.agg (List.replicate 32 (.i .u8 0))])))]++N)) ?_ rfl (by simp[qQ]) (by simp) ?_ ?_
   ·rw[hrow]
    refine List.perm_iff_count.2 fun a=>?_
    simp only[zO,ho',List.count_append,List.count_cons,List.count_nil];omega
   ·rw[hHe]
    have hkf:k=⟨b.asks,k.is,k.data⟩:=by rw[←hp]
    rw[hki]at hkf
    rw[hkf]at hgiv
    simpa[TV.er,AV.er,AV.ers,zH]using hgiv
   rintro y HR' ⟨rfl,hrun'⟩ _
   obtain⟨H2,hH2,hperm⟩:=fin (.msl bT 54 0 1 cap') ([(bT,kR cap' (b.reads++[rk]) (List.replicate (cap'-1) (.agg [.s [],.b false,.agg (List.replicate 32 (.i .u8 0))])))]) HR' (by rw[hr0];exact .inr ⟨bT,cap',_,JK.rep rfl _,rfl,by simp;omega,rfl⟩) hrun'
   have hH2e:H2.er=H2:=by
    obtain⟨q2,hq2,rfl⟩:=hH2
    exact(hq2.er B).1
   have hgo2:=WP B hH2 hgg n hgn
   refine⟨H2,HSub.of_perm ?_,?_⟩
   ·refine List.Perm.trans ?_ hperm
    refine List.perm_iff_count.2 fun a=>?_
    simp only[List.count_append,List.count_cons,List.count_nil];omega
   simp (disch:=omega) [zz,-List.reduceReplicate]
   refine qE (R:=fun y H'=>y=.tup []∧jJ B (yQ b1) H') H2 [] (by simp) rfl (by simp[qQ]) (by simp) ?_ ?_
   ·rw[hH2e]
    simpa[TV.er,AV.er]using hgo2
   rintro y H' ⟨rfl,hfin⟩ _
   refine⟨H',by simpa using HSub.refl _,?_⟩
   have hfe:H'.er=H':=by
    obtain⟨q2,hq2,rfl⟩:=hfin
    exact(hq2.er B).1
   simp (disch:=omega) [zz,-List.reduceReplicate,hfe,Tryz.f19]
   exact⟨H',HSub.refl _,hfin⟩
  ·rw[hRD,hrd]at hnd1 ⊢
   simp[q8.keys]at hnd1
   obtain⟨⟨nT,_⟩,_⟩:=hnd1
   have nT':¬T=B:=fun e=>nT e.symm
   have htk:(b.reads.map qI++j).take b.reads.length=b.reads.map qI:=by rw[List.take_append_of_le_length (by simp)];exact List.take_of_length_le (by simp)
   have hdr:(b.reads.map qI++j).drop (b.reads.length+1)=j.tail:=by
    rw[List.drop_append,List.drop_of_length_le (by simp)];simp
   refine zov Tryz.func19 zeJ fun imm0 w0=>?_
   simp (disch:=omega) [zz,-List.reduceReplicate,zH,zO,ho',hp,hki,hb']
   (repeat with_reducible refine om ?_)
   refine qL (hsum hki) rfl rfl (by simp) (by simp[qS,TV.er,AV.er,AV.ers,zfI]) ?_
   simp (disch:=omega) [zz,-List.reduceReplicate]
   refine jW.ofK [0,1,2,3,4,5,6,7,8,9,10] [0] [] (by kernel_rfl) ?_
   simp (disch:=omega) [zz,-List.reduceReplicate,nT,nT',kR]
   (repeat with_reducible refine om ?_)
   refine⟨fun hroom=>?_,fun hgrow=>?_⟩
   ·(repeat with_reducible refine om ?_)
    have hrow:[(T,kR cap (b.reads++[rk]) j.tail)]=[(T,.var (.arr cap 54) (.agg ((b.reads.map qI++j).take b.reads.length++AV.agg [.s b.asks,.b true,KW (sha k.data)]::(b.reads.map qI++j).drop (b.reads.length+1))))]:=by rw[htk,hdr];simp[kR,hrkE]
    refine jW.ofK [0,1,2,3,4,5,6] [] [] (by kernel_rfl) ?_
    simp (disch:=omega) [zz,-List.reduceReplicate,nT,nT']
    (repeat with_reducible refine om ?_)
    refine qE (R:=fun y H'=>y=.av (.int .i64) (.i .i64 0)∧z6 q.R r' H') q.HR ((B,zO q.R b.outs (jA q.bo q.bi q.ba) q.W (.msl T 54 0 (b.reads.length+1) cap) b.asks b.over b.why)::([(T,kR cap (b.reads++[rk]) j.tail)]++N)) ?_ rfl (by simp[qQ]) (by simp) ?_ ?_
    ·rw[hrow]
     refine List.perm_iff_count.2 fun a=>?_
     simp only[zO,ho',List.count_append,List.count_cons,List.count_nil];omega
    ·rw[hHe]
     have hkf:k=⟨b.asks,k.is,k.data⟩:=by rw[←hp]
     rw[hki]at hkf
     rw[hkf]at hgiv
     simpa[TV.er,AV.er,AV.ers,zH]using hgiv
    rintro y HR' ⟨rfl,hrun'⟩ _
    obtain⟨H2,hH2,hperm⟩:=fin (.msl T 54 0 (b.reads.length+1) cap) ([(T,kR cap (b.reads++[rk]) j.tail)]) HR' (by exact .inr ⟨T,cap,j.tail,hj.tail,by simp,by simp;omega,rfl⟩) hrun'
    have hH2e:H2.er=H2:=by
     obtain⟨q2,hq2,rfl⟩:=hH2
     exact(hq2.er B).1
    have hgo2:=WP B hH2 hgg n hgn
    refine⟨H2,HSub.of_perm ?_,?_⟩
    ·refine List.Perm.trans ?_ hperm
     refine List.perm_iff_count.2 fun a=>?_
     simp only[List.count_append,List.count_cons,List.count_nil];omega
    (simp (maxSteps:=2000000) (disch:=first|omega|assumption) [zz,-List.reduceReplicate])
    refine qE (R:=fun y H'=>y=.tup []∧jJ B (yQ b1) H') H2 [] (by simp) rfl (by simp[qQ]) (by simp) ?_ ?_
    ·rw[hH2e]
     simpa[TV.er,AV.er]using hgo2
    rintro y H' ⟨rfl,hfin⟩ _
    refine⟨H',by simpa using HSub.refl _,?_⟩
    have hfe:H'.er=H':=by
     obtain⟨q2,hq2,rfl⟩:=hfin
     exact(hq2.er B).1
    (simp (maxSteps:=2000000) (disch:=first|omega|assumption) [zz,-List.reduceReplicate,hfe,Tryz.f19])
    exact⟨H',HSub.refl _,hfin⟩
   ·intro bT cap2 c1 c2 c3 c4 c5
    have c1':¬B=bT:=fun e=>c1 e.symm
    (repeat with_reducible refine om ?_)
    (simp (maxSteps:=2000000) (disch:=first|omega|assumption) [zz,-List.reduceReplicate,nT,nT',c1,c1'])
    (repeat with_reducible refine om ?_)
    have hrow:[(bT,kR cap2 (b.reads++[rk]) (List.replicate (cap2-(b.reads.length+1)) (.agg [.s [],.b false,.agg (List.replicate 32 (.i .u8 0))])))]=[(bT,.var (.arr cap2 54) (.agg ((b.reads.map qI++j).take b.reads.length++AV.agg [.s b.asks,.b true,KW (sha k.data)]::List.replicate (cap2-(b.reads.length+1)) (.agg [.s [],.b false,.agg (List.replicate 32 (.i .u8 0))]))))]:=by rw[htk];simp[kR,hrkE]
    refine jW.ofK [0,1,2,3,4,5,6] [] [] (by kernel_rfl) ?_
    (simp (maxSteps:=2000000) (disch:=first|omega|assumption) [zz,-List.reduceReplicate,nT,nT',c1,c1'])
    (repeat with_reducible refine om ?_)
    refine qE (R:=fun y H'=>y=.av (.int .i64) (.i .i64 0)∧z6 q.R r' H') q.HR ((B,zO q.R b.outs (jA q.bo q.bi q.ba) q.W (.msl bT 54 0 (b.reads.length+1) cap2) b.asks b.over b.why)::([(bT,kR cap2 (b.reads++[rk]) (List.replicate (cap2-(b.reads.length+1)) (.agg [.s [],.b false,.agg (List.replicate 32 (.i .u8 0))])))]++((T,.var (.arr cap 54) (.agg (b.reads.map qI++j)))::N))) ?_ rfl (by simp[qQ]) (by simp) ?_ ?_
    ·rw[hrow]
     refine List.perm_iff_count.2 fun a=>?_
     simp only[zO,ho',List.count_append,List.count_cons,List.count_nil];omega
    ·rw[hHe]
     have hkf:k=⟨b.asks,k.is,k.data⟩:=by rw[←hp]
     rw[hki]at hkf
     rw[hkf]at hgiv
     simpa[TV.er,AV.er,AV.ers,zH]using hgiv
    rintro y HR' ⟨rfl,hrun'⟩ _
    obtain⟨H2,hH2,hperm⟩:=fin (.msl bT 54 0 (b.reads.length+1) cap2) ([(bT,kR cap2 (b.reads++[rk]) (List.replicate (cap2-(b.reads.length+1)) (.agg [.s [],.b false,.agg (List.replicate 32 (.i .u8 0))])))]) HR' (by exact .inr ⟨bT,cap2,_,JK.rep rfl _,by simp,by simp;omega,rfl⟩) hrun'
    have hH2e:H2.er=H2:=by
     obtain⟨q2,hq2,rfl⟩:=hH2
     exact(hq2.er B).1
    have hgo2:=WP B hH2 hgg n hgn
    refine⟨H2,⟨(T,.var (.arr cap 54) (.agg (b.reads.map qI++j)))::H2,?_,(List.Sublist.refl _).cons _⟩,?_⟩
    ·refine List.Perm.trans ?_ (hperm.cons _)
     refine List.perm_iff_count.2 fun a=>?_
     simp only[List.count_append,List.count_cons,List.count_nil];omega
    simp (disch:=omega) [zz]
    refine qE (R:=fun y H'=>y=.tup []∧jJ B (yQ b1) H') H2 [] (by simp) rfl (by simp[qQ]) (by simp) ?_ ?_
    ·rw[hH2e]
     simpa[TV.er,AV.er]using hgo2
    rintro y H' ⟨rfl,hfin⟩ _
    refine⟨H',by simpa using HSub.refl _,?_⟩
    have hfe:H'.er=H':=by
     obtain⟨q2,hq2,rfl⟩:=hfin
     exact(hq2.er B).1
    simp (disch:=omega) [zz,hfe,Tryz.f19]
    exact⟨H',HSub.refl _,hfin⟩
 | false =>
  have hrk2:rk=⟨k.path,false,zero32⟩:=by rw[hrk];simp[J9,hki]
  have hrkE:qI rk=AV.agg [.s b.asks,.b false,.agg (List.replicate 32 (.i .u8 0))]:=by rw[hrk2,hzd,hp];rfl
  rcases hq.reads with⟨hr0,hrd,hRD⟩|⟨T,cap,j,hj,hrd,hcap,hRD⟩
  ·rw[hRD,hrd]at hnd1 ⊢
   simp[q8.keys]at hnd1
   refine zov Tryz.func19 zeJ fun imm0 w0=>?_
   simp (disch:=omega) [zz,-List.reduceReplicate,zH,zO,ho',hp,hki,]
   (repeat with_reducible refine om ?_)
   refine jW.ofK [0,1,2,3,4,5,6,7,8,9,10] [0] [] (by kernel_rfl) ?_
   simp (disch:=omega) [zz,-List.reduceReplicate]
   (repeat with_reducible refine om ?_)
   intro bT cap' c1 c2 c3 c4
   have c1':¬B=bT:=fun e=>c1 e.symm
   (simp (maxSteps:=2000000) (disch:=first|omega|assumption) [zz,-List.reduceReplicate,c1,c1'])
   (repeat with_reducible refine om ?_)
   have hrow:[(bT,kR cap' (b.reads++[rk]) (List.replicate (cap'-1) (.agg [.s [],.b false,.agg (List.replicate 32 (.i .u8 0))])))]=[(bT,.var (.arr cap' 54) (.agg (AV.agg [.s b.asks,.b false,.agg (List.replicate 32 (.i .u8 0))]::List.replicate (cap'-1) (.agg [.s [],.b false,.agg (List.replicate 32 (.i .u8 0))]))))]:=by rw[hr0];simp[kR,hrkE]
   refine jW.ofK [0,1,2,3,4,5,6] [] [] (by kernel_rfl) ?_
   (simp (maxSteps:=2000000) (disch:=first|omega|assumption) [zz,-List.reduceReplicate,c1,c1'])
   (repeat with_reducible refine om ?_)
   refine qE (R:=fun y H'=>y=.av (.int .i64) (.i .i64 0)∧z6 q.R r' H') q.HR ((B,zO q.R b.outs (jA q.bo q.bi q.ba) q.W (.msl bT 54 0 1 cap') b.asks b.over b.why)::([(bT,kR cap' (b.reads++[rk]) (List.replicate (cap'-1) (.agg [.s [],.b false,.agg (List.replicate 32 (.i .u8 0))])))]++N)) ?_ rfl (by simp[qQ]) (by simp) ?_ ?_
   ·rw[hrow]
    refine List.perm_iff_count.2 fun a=>?_
    simp only[zO,ho',List.count_append,List.count_cons,List.count_nil];omega
   ·rw[hHe]
    have hkf:k=⟨b.asks,k.is,k.data⟩:=by rw[←hp]
    rw[hki]at hkf
    rw[hkf]at hgiv
    simpa[TV.er,AV.er,AV.ers,zH]using hgiv
   rintro y HR' ⟨rfl,hrun'⟩ _
   obtain⟨H2,hH2,hperm⟩:=fin (.msl bT 54 0 1 cap') ([(bT,kR cap' (b.reads++[rk]) (List.replicate (cap'-1) (.agg [.s [],.b false,.agg (List.replicate 32 (.i .u8 0))])))]) HR' (by rw[hr0];exact .inr ⟨bT,cap',_,JK.rep rfl _,rfl,by simp;omega,rfl⟩) hrun'
   have hH2e:H2.er=H2:=by
    obtain⟨q2,hq2,rfl⟩:=hH2
    exact(hq2.er B).1
   have hgo2:=WP B hH2 hgg n hgn
   refine⟨H2,HSub.of_perm ?_,?_⟩
   ·refine List.Perm.trans ?_ hperm
    refine List.perm_iff_count.2 fun a=>?_
    simp only[List.count_append,List.count_cons,List.count_nil];omega
   simp (disch:=omega) [zz]
   refine qE (R:=fun y H'=>y=.tup []∧jJ B (yQ b1) H') H2 [] (by simp) rfl (by simp[qQ]) (by simp) ?_ ?_
   ·rw[hH2e]
    simpa[TV.er,AV.er]using hgo2
   rintro y H' ⟨rfl,hfin⟩ _
   refine⟨H',by simpa using HSub.refl _,?_⟩
   have hfe:H'.er=H':=by
    obtain⟨q2,hq2,rfl⟩:=hfin
    exact(hq2.er B).1
   simp (disch:=omega) [zz,-List.reduceReplicate,hfe,Tryz.f19]
   exact⟨H',HSub.refl _,hfin⟩
  ·rw[hRD,hrd]at hnd1 ⊢
   simp[q8.keys]at hnd1
   obtain⟨⟨nT,_⟩,_⟩:=hnd1
   have nT':¬T=B:=fun e=>nT e.symm
   have htk:(b.reads.map qI++j).take b.reads.length=b.reads.map qI:=by rw[List.take_append_of_le_length (by simp)];exact List.take_of_length_le (by simp)
   have hdr:(b.reads.map qI++j).drop (b.reads.length+1)=j.tail:=by
    rw[List.drop_append,List.drop_of_length_le (by simp)];simp
   refine zov Tryz.func19 zeJ fun imm0 w0=>?_
   simp (disch:=omega) [zz,-List.reduceReplicate,zH,zO,ho',hp,hki,]
   (repeat with_reducible refine om ?_)
   refine jW.ofK [0,1,2,3,4,5,6,7,8,9,10] [0] [] (by kernel_rfl) ?_
   (simp (maxSteps:=2000000) (disch:=first|omega|assumption) [zz,-List.reduceReplicate,nT,nT',kR])
   (repeat with_reducible refine om ?_)
   refine⟨fun hroom=>?_,fun hgrow=>?_⟩
   ·(repeat with_reducible refine om ?_)
    have hrow:[(T,kR cap (b.reads++[rk]) j.tail)]=[(T,.var (.arr cap 54) (.agg ((b.reads.map qI++j).take b.reads.length++AV.agg [.s b.asks,.b false,.agg (List.replicate 32 (.i .u8 0))]::(b.reads.map qI++j).drop (b.reads.length+1))))]:=by rw[htk,hdr];simp[kR,hrkE]
    refine jW.ofK [0,1,2,3,4,5,6] [] [] (by kernel_rfl) ?_
    (simp (maxSteps:=2000000) (disch:=first|omega|assumption) [zz,-List.reduceReplicate,nT,nT'])
    (repeat with_reducible refine om ?_)
    refine qE (R:=fun y H'=>y=.av (.int .i64) (.i .i64 0)∧z6 q.R r' H') q.HR ((B,zO q.R b.outs (jA q.bo q.bi q.ba) q.W (.msl T 54 0 (b.reads.length+1) cap) b.asks b.over b.why)::([(T,kR cap (b.reads++[rk]) j.tail)]++N)) ?_ rfl (by simp[qQ]) (by simp) ?_ ?_
    ·rw[hrow]
     refine List.perm_iff_count.2 fun a=>?_
     simp only[zO,ho',List.count_append,List.count_cons,List.count_nil];omega
    ·rw[hHe]
     have hkf:k=⟨b.asks,k.is,k.data⟩:=by rw[←hp]
     rw[hki]at hkf
     rw[hkf]at hgiv
     simpa[TV.er,AV.er,AV.ers,zH]using hgiv
    rintro y HR' ⟨rfl,hrun'⟩ _
    obtain⟨H2,hH2,hperm⟩:=fin (.msl T 54 0 (b.reads.length+1) cap) ([(T,kR cap (b.reads++[rk]) j.tail)]) HR' (by exact .inr ⟨T,cap,j.tail,hj.tail,by simp,by simp;omega,rfl⟩) hrun'
    have hH2e:H2.er=H2:=by
     obtain⟨q2,hq2,rfl⟩:=hH2
     exact(hq2.er B).1
    have hgo2:=WP B hH2 hgg n hgn
    refine⟨H2,HSub.of_perm ?_,?_⟩
    ·refine List.Perm.trans ?_ hperm
     refine List.perm_iff_count.2 fun a=>?_
     simp only[List.count_append,List.count_cons,List.count_nil];omega
    simp (disch:=omega) [zz,-List.reduceReplicate]
    refine qE (R:=fun y H'=>y=.tup []∧jJ B (yQ b1) H') H2 [] (by simp) rfl (by simp[qQ]) (by simp) ?_ ?_
    ·rw[hH2e]
     simpa[TV.er,AV.er]using hgo2
    rintro y H' ⟨rfl,hfin⟩ _
    refine⟨H',by simpa using HSub.refl _,?_⟩
    have hfe:H'.er=H':=by
     obtain⟨q2,hq2,rfl⟩:=hfin
     exact(hq2.er B).1
    simp (disch:=omega) [zz,-List.reduceReplicate,hfe,Tryz.f19]
    exact⟨H',HSub.refl _,hfin⟩
   ·intro bT cap2 c1 c2 c3 c4 c5
    have c1':¬B=bT:=fun e=>c1 e.symm
    (repeat with_reducible refine om ?_)
    (simp (maxSteps:=2000000) (disch:=first|omega|assumption) [zz,-List.reduceReplicate,nT,nT',c1,c1'])
    (repeat with_reducible refine om ?_)
    have hrow:[(bT,kR cap2 (b.reads++[rk]) (List.replicate (cap2-(b.reads.length+1)) (.agg [.s [],.b false,.agg (List.replicate 32 (.i .u8 0))])))]=[(bT,.var (.arr cap2 54) (.agg ((b.reads.map qI++j).take b.reads.length++AV.agg [.s b.asks,.b false,.agg (List.replicate 32 (.i .u8 0))]::List.replicate (cap2-(b.reads.length+1)) (.agg [.s [],.b false,.agg (List.replicate 32 (.i .u8 0))]))))]:=by rw[htk];simp[kR,hrkE]
    refine jW.ofK [0,1,2,3,4,5,6] [] [] (by kernel_rfl) ?_
    (simp (maxSteps:=2000000) (disch:=first|omega|assumption) [zz,-List.reduceReplicate,nT,nT',c1,c1'])
    (repeat with_reducible refine om ?_)
    refine qE (R:=fun y H'=>y=.av (.int .i64) (.i .i64 0)∧z6 q.R r' H') q.HR ((B,zO q.R b.outs (jA q.bo q.bi q.ba) q.W (.msl bT 54 0 (b.reads.length+1) cap2) b.asks b.over b.why)::([(bT,kR cap2 (b.reads++[rk]) (List.replicate (cap2-(b.reads.length+1)) (.agg [.s [],.b false,.agg (List.replicate 32 (.i .u8 0))])))]++((T,.var (.arr cap 54) (.agg (b.reads.map qI++j)))::N))) ?_ rfl (by simp[qQ]) (by simp) ?_ ?_
    ·rw[hrow]
     refine List.perm_iff_count.2 fun a=>?_
     simp only[zO,ho',List.count_append,List.count_cons,List.count_nil];omega
    ·rw[hHe]
     have hkf:k=⟨b.asks,k.is,k.data⟩:=by rw[←hp]
     rw[hki]at hkf
     rw[hkf]at hgiv
     simpa[TV.er,AV.er,AV.ers,zH]using hgiv
    rintro y HR' ⟨rfl,hrun'⟩ _
    obtain⟨H2,hH2,hperm⟩:=fin (.msl bT 54 0 (b.reads.length+1) cap2) ([(bT,kR cap2 (b.reads++[rk]) (List.replicate (cap2-(b.reads.length+1)) (.agg [.s [],.b false,.agg (List.replicate 32 (.i .u8 0))])))]) HR' (by exact .inr ⟨bT,cap2,_,JK.rep rfl _,by simp,by simp;omega,rfl⟩) hrun'
    have hH2e:H2.er=H2:=by
     obtain⟨q2,hq2,rfl⟩:=hH2
     exact(hq2.er B).1
    have hgo2:=WP B hH2 hgg n hgn
    refine⟨H2,⟨(T,.var (.arr cap 54) (.agg (b.reads.map qI++j)))::H2,?_,(List.Sublist.refl _).cons _⟩,?_⟩
    ·refine List.Perm.trans ?_ (hperm.cons _)
     refine List.perm_iff_count.2 fun a=>?_
     simp only[List.count_append,List.count_cons,List.count_nil];omega
    simp (disch:=omega) [zz]
    refine qE (R:=fun y H'=>y=.tup []∧jJ B (yQ b1) H') H2 [] (by simp) rfl (by simp[qQ]) (by simp) ?_ ?_
    ·rw[hH2e]
     simpa[TV.er,AV.er]using hgo2
    rintro y H' ⟨rfl,hfin⟩ _
    refine⟨H',by simpa using HSub.refl _,?_⟩
    have hfe:H'.er=H':=by
     obtain⟨q2,hq2,rfl⟩:=hfin
     exact(hq2.er B).1
    simp (disch:=omega) [zz,hfe,Tryz.f19]
    exact⟨H',HSub.refl _,hfin⟩
end Go.Proofs.YtcgpcfcbienapaaGreatDoor
end
section
set_option maxRecDepth 100000
namespace Go.Proofs.YtcgpcfcbienapaaGreatDoor
open Go Go.Ab
open Classical
variable [Sel] [SelPow] [SelMax]
structure Z4 (env:List (Txt × Txt)) (cs:List CmdV) (outs:List Txt) (may:Txt→Bool) (kn:List KnV) (b:zCU):Prop where
 g:ZJ b
 s:∃wr,WY env (C9 cs) kn outs may wr b
section
variable {env:List (Txt × Txt)} {cs:List CmdV} {outs:List Txt} {may:Txt→Bool} {kn:List KnV} {b:zCU}
theorem Z4.rl (h:Z4 env cs outs may kn b):b.reads.length≤500:=by
 obtain⟨wr,hs⟩:=h.s
 rw[hs.reads,List.length_map];exact hs.len
theorem Z4.wl (h:Z4 env cs outs may kn b) (ho:outs.length≤1000000):b.wrote.length≤1000000:=by
 obtain⟨wr,hs⟩:=h.s
 have h1:(wr.map (·.path)).length≤outs.length:=List.Nodup.length_le_of_subset hs.nod fun p hp=>by
  obtain⟨w,hw,rfl⟩:=List.mem_map.1 hp
  exact hs.own w hw
 rw[hs.wrote,List.length_map]
 simp only[List.length_map]at h1
 omega
theorem Z4.can (h:Z4 env cs outs may kn b) (k:KnV) (ho:b.over=false) (hp:k.path=b.asks) (hd:k.is=true→k.data.length≤65536):zg6 k b:=by
 obtain⟨wr,hs⟩:=h.s
 obtain⟨h1,h2⟩:=hs.tell ho k hp hd
 exact⟨h2,⟨h.g.good.give k (fun h=>by have:=hd h;omega),h.g.ask.give h.g.good.inv k,h1.at_.ov,h1.no2⟩,⟨_,(V7 h1).1⟩⟩
theorem Z4.give (h:Z4 env cs outs may kn b) (k:KnV) (ho:b.over=false) (hp:k.path=b.asks) (hd:k.is=true→k.data.length≤65536):(kB k b).1=0∧Z4 env cs outs may (kn++[k]) (kB k b).2:=by
 have hc:=h.can k ho hp hd
 obtain⟨wr,hs⟩:=h.s
 obtain⟨h1,m,h2⟩:=hs.give ho k hp hd
 refine⟨h1,?_,_,h2⟩
 have hv:(kB k b).2=yQ (zE0 k b):=by unfold kB;rw[if_neg (by rw[ho];decide),if_neg (by simp[hp]),if_neg (fun h=>by have:=hd h.1;omega)];rfl
 obtain⟨n,hn⟩:=hc.go
 rw[hv]
 exact ZJ.goN n hn hc.good
end
theorem zbj {t:Txt} {cs:List CmdV} (h:j7 t=.ok cs) {env:List (Txt × Txt)} (h1:env.length≤1000000000) (h2:∀x∈env,x.2.length≤1000000000000000) (outs:List Txt) (may:Txt→Bool):Z4 env cs outs may [] (ZR env outs may cs):=by
 have hl:=y8 h
 have hgo:=(V7 (zeZ env outs may cs hl)).1
 exact⟨ZJ.goN _ hgo (za8 h h1 h2 outs may),zec env outs may cs hl⟩
theorem uJ {b:zCU} (h:b.over=true):(yD b).2=true:=by
 unfold yD
 rw[if_neg (by rw[h];decide)]
 split<;>rfl
theorem zew {b:zCU} (h:b.over=true):(yD b).1.reads=b.reads:=by
 unfold yD
 rw[if_neg (by rw[h];decide)]
 split<;>rfl
theorem zfu {l:List KnV} {p:Txt} {j:Nat} (hj:j<l.length) (hno:∀i (h:i<l.length),i<j→l[i].path≠p) (h:l[j].path=p):zQ l p=some l[j]:=by
 unfold zQ
 rw[List.find?_eq_some_iff_getElem]
 refine⟨by simpa using h,j,hj,rfl,fun i hi=>?_⟩
 simpa using hno i (by omega) hi
end Go.Proofs.YtcgpcfcbienapaaGreatDoor
end
section
set_option maxRecDepth 100000
namespace Go.Proofs.YtcgpcfcbienapaaGreatDoor
open Go Go.Ab
open Classical
variable [Sel] [SelPow] [SelMax]
def ZT:Txt:=[114,101,97,100,32,97,10,119,114,105,116,101,32,111,117,116,47,111,10]
def QG:Txt:=[111,117,116,47,111]
def zwH:xW:=⟨[],[],ZT,[],[],[[42]],[QG]⟩
def alK:KnV:=⟨[97],true,[120]⟩
structure zpd (cs:List CmdV) (b b':zCU):Prop where
 k0:Z4 [] cs [QG] (jI zwH) [] b
 k1:Z4 [] cs [QG] (jI zwH) [alK] b'
 give:kB alK b=(0,b')
 asks:b.asks=[97]
 open_:b.over=false
 out:yD b'=(⟨1,0,[⟨QG,[120]⟩],[⟨[97],true,sha [120]⟩]⟩,true)
end Go.Proofs.YtcgpcfcbienapaaGreatDoor
end
section
set_option maxRecDepth 100000
namespace Go.Proofs.YtcgpcfcbienapaaGreatDoor
open Go Go.Ab
open Classical
variable [Sel] [SelPow] [SelMax]
end Go.Proofs.YtcgpcfcbienapaaGreatDoor
end
section
set_option maxRecDepth 100000
namespace Go.Proofs.YtcgpcfcbienapaaGreatDoor
open Go Go.Ab
open Classical
variable [Sel] [SelPow] [SelMax]
def J8:List (List Txt)→Nat
 | []=>0
 | x::l=>txW x+J8 l
theorem gC:∀a b:List (List Txt),J8 (a++b)=J8 a+J8 b
 | [],b=>by simp[J8]
 | x::a,b=>by simp only[List.cons_append,J8,gC a b];omega
theorem zeL (l:List (List Txt)) (k:Nat):J8 (l.take k)≤J8 l:=by
 conv=>rhs;rw[←List.take_append_drop k l,gC]
 omega
theorem zf7 (l:List (List Txt)) (k:Nat) (h:k<l.length):J8 (l.take (k+1))=J8 (l.take k)+txW l[k]:=by
 rw[List.take_succ_eq_append_getElem h,gC];simp only[J8];omega
def UY (l:List Txt):AV:=.sl .no (strs l)
theorem zm7 (l:List (List Txt)) (k:Nat) (h:k<l.length):(l.map UY)[k]?=some (UY l[k]):=KB UY l k h
set_option maxHeartbeats 8000000 in
theorem d8 (a:xW) (hl:vA a≤1000000000):PC Tryz.prog 6 [.av UI (kT a)] (.av .bool (.b (decide (2000<vA a)))):=by
 obtain⟨pkg,name,tool,env,ins,asks,outs⟩:=a
 obtain⟨rows,hrows⟩:∃rows,rows=[ins,asks,outs]:=⟨_,rfl⟩
 have hrl:rows.length=3:=by rw[hrows];rfl
 have hW:vA ⟨pkg,name,tool,env,ins,asks,outs⟩=tool.length+J8 rows+enW env:=by
  rw[hrows];simp only[vA,J8];omega
 have hel:=pU env
 rw[hW]at hl ⊢
 have hrm:AV.sl Tok.no (rows.map UY)=.sl .no [.sl .no (strs ins),.sl .no (strs asks),.sl .no (strs outs)]:=by rw[hrows];rfl
 obtain⟨A,hA⟩:∃A,A=kT ⟨pkg,name,tool,env,ins,asks,outs⟩:=⟨_,rfl⟩
 have hA':A=.agg [.agg [.s pkg,.s name],.s tool,.sl .no (env.map Z7),.sl .no (strs ins),.sl .no (strs asks),.sl .no (strs outs)]:=by rw[hA];rfl
 refine zow Tryz.func6 cf0 fun imm0 w0=>?_
 simp (disch:=omega) [zz,kT,zS]
 refine AT.loop' (α:=Nat) (fun k=>St.of [(1,.loc 1 []),(19,.av (.slice 25) (.sl .no (rows.map UY))),(20,.av (.int .i64) (.i .i64 3)),(21,.av (.int .i64) (.i .i64 k)),(3,.av (.int .i64) (.i .i64 (tool.length+J8 (rows.take k):Nat)))] [(1,(UI,A))] (fun _=>0) [])
  (fun k=>k≤3) (fun k=>3-k) 0 ?_ ?_ ?_
 ·apply Le.of<;>simp[qU,qG,J8,hA',hrm]<;>try omega
 ·omega
 rintro k hk KL hN hE
 refine qM (cf:=cf0) laid mixed _ _ _ (by kernel_rfl) ?_
 by_cases hlt:k<3
 ·have hlt':(k:Int)<3:=by omega
  have hkr:k<rows.length:=by omega
  have hg:=zm7 rows k hkr
  have hst:=zf7 rows k hkr
  have hle:=zeL rows (k+1)
  obtain⟨row,hrow⟩:∃row,row=rows[k]:=⟨_,rfl⟩
  rw[←hrow]at hst hg
  obtain⟨n0,hn0⟩:∃n0,n0=tool.length+J8 (rows.take k):=⟨_,rfl⟩
  have hn1:tool.length+J8 (rows.take (k+1))=n0+txW row:=by omega
  rw[←hn0]
  have hrl2:=WB row
  simp (disch:=omega) [zz,hlt',hg,hrl,UY]
  refine AT.loop' (α:=Nat) (fun j=>St.of [(1,.loc 1 []),(19,.av (.slice 25) (.sl .no (rows.map UY))),(20,.av (.int .i64) (.i .i64 3)),(21,.av (.int .i64) (.i .i64 k)),(25,.av (.slice 9) (.sl .no (strs row))),(26,.av (.int .i64) (.i .i64 row.length)),(27,.av (.int .i64) (.i .i64 j)),(3,.av (.int .i64) (.i .i64 (n0+txW (row.take j):Nat)))] [(1,(UI,A))] (fun _=>0) [])
   (fun j=>j≤row.length) (fun j=>row.length-j) 0 ?_ ?_ ?_
  ·apply Le.of<;>simp[qU,qG,txW,qX]<;>try omega
  ·omega
  rintro j hj KL2 hN2 hE2
  refine qM (cf:=cf0) laid mixed _ _ _ (by kernel_rfl) ?_
  by_cases hjl:j<row.length
  ·have hjl':(j:Int)<row.length:=by omega
   have hgj:=yH row j hjl
   have hs:=zhM row j hjl
   have ht:=zjA row (j+1)
   obtain⟨m,hm⟩:∃m,m=txW (row.take j):=⟨_,rfl⟩
   rw[←hm]at hs ⊢
   have hs':(txW (row.take (j+1)):Int)=m+(row[j].length+1):=by omega
   simp (disch:=omega) [zz,hjl',hgj,qX]
   refine hN2 _ (j+1) ?_ (by omega) (by omega)
   apply Le.of<;>simp[qU,qG,qX,hs']<;>try omega
  ·have hjn:j=row.length:=by omega
   subst hjn
   have hjl':¬(row.length:Int)<row.length:=by omega
   simp (disch:=omega) [zz,hjl',qX]
   refine hE2 _ _ (by simp) ?_
   simp (disch:=omega) [zz]
   refine hN _ (k+1) ?_ (by omega) (by omega)
   rw[hn1]
   apply Le.of<;>simp[qU,qG,zX]<;>try omega
 ·have hkn:k=3:=by omega
  subst hkn
  have ht3:rows.take 3=rows:=List.take_of_length_le (by omega)
  rw[ht3]
  simp (disch:=omega) [zz]
  refine hE _ _ (by simp) ?_
  simp (disch:=omega) [zz,hA']
  obtain⟨n0,hn0⟩:∃n0,n0=tool.length+J8 rows:=⟨_,rfl⟩
  rw[←hn0]at hl ⊢
  refine AT.loop' (α:=Nat) (fun j=>St.of [(39,.av (.slice 84) (.sl .no (env.map Z7))),(40,.av (.int .i64) (.i .i64 env.length)),(41,.av (.int .i64) (.i .i64 j)),(3,.av (.int .i64) (.i .i64 (n0+enW (env.take j):Nat)))] [] (fun _=>0) [])
   (fun j=>j≤env.length) (fun j=>env.length-j) 0 ?_ ?_ ?_
  ·apply Le.of<;>simp[qU,qG,enW,hn0]<;>try omega
  ·omega
  rintro j hj KL2 hN2 hE2
  refine qM (cf:=cf0) laid mixed _ _ _ (by kernel_rfl) ?_
  by_cases hjl:j<env.length
  ·have hjl':(j:Int)<env.length:=by omega
   have hgj:=KB Z7 env j hjl
   have hs:=ziz env j hjl
   have ht:=zjF env (j+1)
   obtain⟨m,hm⟩:∃m,m=enW (env.take j):=⟨_,rfl⟩
   rw[←hm]at hs ⊢
   have hs':(enW (env.take (j+1)):Int)=m+(env[j].1.length+env[j].2.length+1):=by omega
   simp (disch:=omega) [zz,hjl',hgj,Z7]
   refine hN2 _ (j+1) ?_ (by omega) (by omega)
   apply Le.of<;>simp[qU,qG,hs']<;>try omega
  ·have hjn:j=env.length:=by omega
   subst hjn
   have hjl':¬(env.length:Int)<env.length:=by omega
   simp (disch:=omega) [zz,hjl']
   refine hE2 _ _ (by simp) ?_
   by_cases h5:2000<n0+enW env
   ·have h5':(2000:Int)<(n0:Int)+enW env:=by omega
    simp (disch:=omega) [zz,h5,h5',Tryz.f6]
   ·have h5':¬(2000:Int)<(n0:Int)+enW env:=by omega
    simp (disch:=omega) [zz,h5,h5',Tryz.f6]
end Go.Proofs.YtcgpcfcbienapaaGreatDoor
end
