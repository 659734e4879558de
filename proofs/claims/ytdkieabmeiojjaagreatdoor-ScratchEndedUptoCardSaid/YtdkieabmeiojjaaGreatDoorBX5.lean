/- A box is asked; what came of it. No condition. -/
import Derived.Test.YtdkieabmeiojjaaGreatDoorS6ToS8
set_option linter.unusedSimpArgs false
set_option linter.unusedVariables false
set_option linter.unusedSectionVars false
set_option maxHeartbeats 64000000
set_option maxRecDepth 100000
namespace Go.Proofs.YtdkieabmeiojjaaGreatDoor
open Go Go.Ab
open Classical
variable [Sel] [SelPow] [SelMax]
theorem JF.split {q:JF} {b:zJ} (hq:q.OK b) (B:Nat):∃M:q8,q.core B b=(B,zF q.R b.outs (zW q.bo q.bi q.ba) q.W q.rd b.asks b.over b.why)::M/\M.er=M:=by
 obtain⟨_,hMe,hHe,_⟩:=hq.er B
 exact⟨(q.W,wrO b.wrote)::(q.M b++q.HR),rfl,by simp only[q8.er_cons,q8.er_app,hMe,hHe,JO]⟩
theorem zn3 (B:Nat) {b:zJ} {H:q8} (hH:ZY B b H) :
  q7 Tryz.prog 50 [.av .ptr (.ptr B UN [])] H fun y H'=>y=.tup [(.str,.s (if b.over=true then [] else b.asks)),(.bool,.b (!b.over))]/\ZY B b H':=by
 obtain⟨q,hq,rfl⟩:=hH
 obtain⟨_,_,_,hre⟩:=hq.er B
 obtain⟨M,hM,hMe⟩:=JF.split hq B
 refine q7.sub (R:=fun y H'=>y=.tup [(.str,.s (if b.over=true then [] else b.asks)),(.bool,.b (!b.over))]/\∃H2,Ab.HSub H2 H'/\H2=q.core B b) ?_ fun y H' ⟨h1,H2,h2,h3⟩ _=>⟨H2,h2,h1,q,hq,h3⟩
 rw[hM]
 obtain⟨ov,hov⟩:∃ov,ov=b.over:=⟨_,rfl⟩
 rw[<-hov]
 cases ov with
 | true =>
  refine zov Tryz.func50 cf0 fun imm0 w0=>?_
  simp (disch:=omega) [zz,zF]
  simp (disch:=omega) [zz,hMe,hre,zW,Tryz.f50]
  exact HSub.refl _
 | false =>
  refine zov Tryz.func50 cf0 fun imm0 w0=>?_
  simp (disch:=omega) [zz,zF]
  simp (disch:=omega) [zz,hMe,hre,zW,Tryz.f50]
  exact HSub.refl _
abbrev zqn:Cfg:=⟨fun _=>false,fun n=>n==5⟩
theorem zfU (l:List KH) (b cap:Nat) (j:List AV) (hj:JK j) (hcap:l.length+j.length=cap) (hn:l.length<=1000) :
  q7 Tryz.prog 73 [.av (.slice 97) (.msl b 97 0 l.length cap)] [(b,kM cap l j)]
   fun r H'=>r=.av (.slice 97) (zC l)/\H'=[(b,kM cap l j)]:=by
 have htk:(l.map qX++j).take l.length=l.map qX:=by rw[List.take_append_of_le_length (by simp)];exact List.take_of_length_le (by simp)
 have her:AV.erks (l.map qX++j)=l.map qX++j:=JK.app (vW l) hj
 have h1:q7 Tryz.prog 73 [.av (.slice 97) (.msl b 97 0 l.length cap)] [(b,kM cap l j)]
   fun r H'=>∃b' cap' j',JK j'/\l.length+j'.length=cap'/\r=.av (.slice 97) (.msl b' 97 0 l.length cap')/\H'=[(b',kM cap' l j'),(b,kM cap l j)]:=by
  refine q7.sub (R:=fun r H'=>∃b' cap' j',JK j'/\l.length+j'.length=cap'/\r=.av (.slice 97) (.msl b' 97 0 l.length cap')/\HSub [(b',kM cap' l j'),(b,kM cap l j)] H') ?_ fun r H' ⟨b',cap',j',h1,h2,h3,h4⟩ _=>⟨_,h4,b',cap',j',h1,h2,h3,rfl⟩
  refine zov Tryz.func73 zqn fun imm0 w0=>?_
  simp (disch:=omega) [zz,-List.reduceReplicate,kM]
  intro b5 hb5
  simp (disch:=omega) [zz,-List.reduceReplicate,hb5,htk]
  have hb5':¬b=b5:=fun e=>hb5 e.symm
  refine⟨by omega,⟨by omega,by omega⟩,fun h0=>?_,fun h0 b' cap' h1 h2 hc=>?_⟩
  ·have:l=[]:=by
    rcases h0 with h0|h0
    ·exact h0
    ·simpa using h0.1
   subst this
   (simp (maxSteps:=2000000) (disch:=first|omega|assumption) [zz,-List.reduceReplicate,Tryz.f73,hj,her])
   refine⟨b5,0,[],JK.nil,by simp,by simp,HSub.of_sub ?_⟩
   have:AV.erks j=j:=hj
   simp[this]
  ·have hz:=JK.app (vW l) (JK.rep (z:=.agg [.s [],.b false,.agg (List.replicate 32 (.i .u8 0))]) (by rfl) (cap'-l.length))
   unfold JK at hz
   (simp (maxSteps:=2000000) (disch:=first|omega|assumption) [zz,-List.reduceReplicate,Tryz.f73,hz,her])
   refine⟨b',cap',List.replicate (cap'-l.length) (.agg [.s [],.b false,.agg (List.replicate 32 (.i .u8 0))]),JK.rep rfl _,by simp;omega,⟨rfl,rfl⟩,⟨_,List.Perm.refl _,?_⟩⟩
   exact((List.Sublist.refl _).cons _).cons_cons _
 refine h1.freeze laid ?_
 rintro r H' ⟨b',cap',j',hj',hc',rfl,rfl⟩ _
 left
 refine⟨b',cap',97,_,[(b,kM cap l j)],List.Perm.refl _,?_,rfl⟩
 simp only[zaK,fzA]
 rw[if_pos ⟨trivial,trivial,by omega,by omega⟩]
 simp only[List.drop_zero]
 rw[List.take_append_of_le_length (by simp),List.take_of_length_le (by simp)]
 rfl
theorem zgi (l:List KH) (rd:AV) (RD:q8) (h:cO l rd RD) (hn:l.length<=1000) :
  q7 Tryz.prog 73 [.av (.slice 97) rd] RD fun r H'=>r=.av (.slice 97) (zC l)/\H'=RD:=by
 rcases h with⟨rfl,rfl,rfl⟩|⟨T,cap,j,hj,rfl,hc,rfl⟩
 ·refine zov Tryz.func73 cf0 fun imm0 w0=>?_
  simp (disch:=omega) [zz,Tryz.f73,zC]
 ·exact zfU l T cap j hj hc hn
def tkS (s k:Nat):Ab.Tok:=match k with|0=>.full|k+1=>.own s (k+1)
noncomputable def foB (l:List (Txt × Txt)) (p:Txt):jK:=⟨p,((l.find? fun x=>decide (x.1=p)).getD ([],[])).2⟩
abbrev zli:Cfg:=⟨fun _=>false,fun n=>n==52⟩
theorem zfA (B:Nat) {b:zJ} {H:q8} (hH:ZY B b H) (hr:b.reads.length<=1000) (hw:b.wrote.length<=1000000) :
  q7 Tryz.prog 51 [.av .ptr (.ptr B UN [])] H fun y H'=>y=.tup [(q9 Tryz.prog 31,z7 (ZH b).1),(.bool,.b (ZH b).2)]/\ZY B b H':=by
 obtain⟨q,hq,rfl⟩:=hH
 obtain⟨_,hMe0,hHe,hre⟩:=hq.er B
 refine q7.sub (R:=fun y H'=>y=.tup [(q9 Tryz.prog 31,z7 (ZH b).1),(.bool,.b (ZH b).2)]/\∃H2,Ab.HSub H2 H'/\H2=q.core B b) ?_ fun y H' ⟨h1,H2,h2,h3⟩ _=>⟨H2,h2,h1,q,hq,h3⟩
 by_cases ho:b.over=true
 rotate_left
 ·have ho':b.over=false:=by simpa using ho
  obtain⟨M,hM,hMe⟩:=JF.split hq B
  rw[hM]
  refine zov Tryz.func51 zli fun imm0 w0=>?_
  simp (disch:=omega) [zz,zF,ho']
  simp (disch:=omega) [zz,hMe,hre,zW,Tryz.f51,ZH,ho',z7,qL,zC]
  exact HSub.refl _
 refine q7.nodup fun hnd=>?_
 simp[JF.core,q8.keys]at hnd
 obtain⟨⟨n1,n2⟩,n3⟩:=hnd
 have n1':¬q.W=B:=fun e=>n1 e.symm
 obtain⟨M,hM⟩:∃M:q8,M=WK q.bo q.bi q.ba b.outs q.ins q.ask++q.HR:=⟨_,rfl⟩
 have hMe:M.er=M:=by rw[hM,q8.er_app,hHe,gK]
 have hp1:(q.core B b).Perm ((B,zF q.R b.outs (zW q.bo q.bi q.ba) q.W q.rd b.asks b.over b.why)::(q.W,wrO b.wrote)::(q.RD++M)):=by
  refine List.perm_iff_count.2 fun a=>?_
  simp only[JF.core,JF.M,hM,List.count_append,List.count_cons];omega
 have hRe:=hq.reads.er.1
 have hcl:=zgi b.reads q.rd q.RD hq.reads hr
 have hwe:=JO b.wrote
 have hers:AV.ers (b.reads.map qX)=b.reads.map qX:=by simp[AV.ers_eq,Function.comp_def]
 refine q7.perm hp1 ?_
 obtain⟨rd,hrd⟩:∃rd,rd=q.rd:=⟨_,rfl⟩
 have hrer:rd.er=rd:=by
  rw[hrd]
  rcases hq.reads with⟨_,e,_⟩|⟨T,cap,j,_,e,_⟩<;>rw[e]<;>rfl
 rw[<-hrd]at hcl hre hp1 |-
 have back:∀H':q8,Ab.HSub ((B,zF q.R b.outs (zW q.bo q.bi q.ba) q.W rd b.asks b.over b.why)::(q.W,wrO b.wrote)::(q.RD++M)) H'->Ab.HSub (q.core B b) H':=fun H' h=>X9 (HSub.of_perm hp1.symm) h
 have hcp:((B,zF q.R b.outs (zW q.bo q.bi q.ba) q.W rd b.asks b.over b.why)::(q.W,wrO b.wrote)::(q.RD++M)).Perm (q.RD++(B,zF q.R b.outs (zW q.bo q.bi q.ba) q.W rd b.asks b.over b.why)::(q.W,wrO b.wrote)::M):=by
  refine List.perm_iff_count.2 fun a=>?_
  simp only[List.count_append,List.count_cons];omega
 by_cases hy:b.why=0
 rotate_left
 ·refine zov Tryz.func51 zli fun imm0 w0=>?_
  simp (disch:=omega) [zz,zF,ho,n1,n1']
  (repeat with_reducible refine om ?_)
  refine vK (r:=.av (.slice 97) (zC b.reads)) (bs:=[.av (.slice 97) rd]) q.RD ((B,zF q.R b.outs (zW q.bo q.bi q.ba) q.W rd b.asks b.over b.why)::(q.W,wrO b.wrote)::M) ?_ (by rw[hRe];exact hcl) rfl (by simp[qE]) (by simp) ?_ ?_
  ·simpa[zF,ho]using hcp
  ·simp[qR,TV.er,hrer]
  simp (disch:=omega) [zz,zF,ho,hy,n1,n1']
  have hme:(zW q.bo q.bi q.ba).erk=zW q.bo q.bi q.ba:=rfl
  have ho1:ZH b=(⟨2,b.why,[],b.reads⟩,true):=by unfold ZH;rw[if_neg (by rw[ho];decide),if_neg hy]
  simp (disch:=omega) [zz,hMe,hRe,hre,hwe,hme,ho1,hers,z7,qL,zC,Tryz.f51,ho]
  (repeat with_reducible refine om ?_)
  refine back _ ?_
  simp only[zF,ho]
  exact HSub.refl _
 ·refine zov Tryz.func51 zli fun imm0 w0=>?_
  simp (disch:=omega) [zz,zF,ho,n1,n1']
  (repeat with_reducible refine om ?_)
  refine vK (r:=.av (.slice 97) (zC b.reads)) (bs:=[.av (.slice 97) rd]) q.RD ((B,zF q.R b.outs (zW q.bo q.bi q.ba) q.W rd b.asks b.over b.why)::(q.W,wrO b.wrote)::M) ?_ (by rw[hRe];exact hcl) rfl (by simp[qE]) (by simp) ?_ ?_
  ·simpa[zF,ho]using hcp
  ·simp[qR,TV.er,hrer]
  simp (disch:=omega) [zz,zF,ho,hy,n1,n1']
  (repeat with_reducible refine om ?_)
  have hme:(zW q.bo q.bi q.ba).erk=zW q.bo q.bi q.ba:=rfl
  have ho1:ZH b=(⟨1,0,JA b,b.reads⟩,true):=by unfold ZH;rw[if_neg (by rw[ho];decide),if_pos hy]
  obtain⟨bo,hbo⟩:∃bo,bo=zF q.R b.outs (zW q.bo q.bi q.ba) q.W rd b.asks b.over b.why:=⟨_,rfl⟩
  have hbo':HObj.var UN (.agg [.ptr q.R kO [],.sl .no (strs b.outs),zW q.bo q.bi q.ba,.map (some q.W),rd,.s b.asks,.b true,.i .i64 0])=bo:=by rw[hbo,zF,ho,hy]
  have hboe:bo.er=bo:=by rw[hbo];exact J2 hme hre
  rw[<-hbo]at back
  have hbo2:=hbo'
  refine qD (R:=fun r H'=>∃c,r=.av .func (.fn 119 [.ptr c WrT []])/\H'=[(c,wbO q.W)]) [] ((B,bo)::(q.W,wrO b.wrote)::(q.RD++M)) (by rw[<-hbo'];exact List.Perm.refl _) rfl (by simp[qE]) (by simp) ?_ ?_
  ·have:=zle q.W
   simpa[TV.er,AV.er,AV.ers,q8.er_nil]using this
  rintro r' H' ⟨c,rfl,rfl⟩ hnd
  simp[q8.keys]at hnd
  have hcW:c≠q.W:=hnd.1.2.1
  have hcB:¬c=B:=hnd.1.1
  have hcB':¬B=c:=fun e=>hcB e.symm
  refine⟨_,HSub.refl _,?_⟩
  simp (disch:=omega) [zz]
  have hwb:(wbO q.W).er=wbO q.W:=rfl
  obtain⟨ks,hks⟩:∃ks,ks=k7 (b.wrote.map (·.1)):=⟨_,rfl⟩
  have hkl:ks.length<=1000000:=by rw[hks,Q9];simpa using hw
  refine qD (R:=wS (b.wrote.map (·.1)) [(q.W,wrO b.wrote),(c,wbO q.W)]) [(q.W,wrO b.wrote),(c,wbO q.W)] ((B,bo)::(q.RD++M)) ?_ rfl (by simp[qE]) (by simp) ?_ ?_
  ·refine List.perm_iff_count.2 fun a=>?_
   simp only[List.count_append,List.count_cons,List.count_nil];omega
  ·have:=zfN (zhZ c q.W hcW b.wrote) (by simpa using hw)
   simpa[TV.er,AV.er,AV.ers,q8.er_cons,q8.er_nil,hwe,hwb]using this
  rintro r' H' ⟨v,H1,rfl,hrow,rfl⟩ hnd2
  rw[<-hks]at hrow
  have hmem:∀p∈ks,p∈b.wrote.map (·.1):=fun p hp=>by rw[hks]at hp;exact(ZO _).mem_iff.1 hp
  have hob:JA b=ks.map (foB b.wrote):=by rw[hks];rfl
  rcases hrow with⟨hk0,rfl,rfl⟩|⟨T,cap,j,hj,rfl,hcap,rfl⟩
  ·refine⟨(B,bo)::(q.W,wrO b.wrote)::(q.RD++M),⟨(c,wbO q.W)::(B,bo)::(q.W,wrO b.wrote)::(q.RD++M),?_,(List.Sublist.refl _).cons _⟩,?_⟩
   ·refine List.perm_iff_count.2 fun a=>?_
    simp only[List.count_append,List.count_cons,List.count_nil];omega
   simp (disch:=omega) [zz]
   rw[<-hbo2]
   refine AT.loop' (α:=Nat) (fun k=>St.of [(0,.av .ptr (.ptr B UN [])),(2,.loc 2 []),(4,.loc 4 []),(35,.av (.int .i64) (.i .i64 0)),(36,.av (.int .i64) (.i .i64 k))] [(2,(q9 Tryz.prog 31,.agg [.i .i64 0,.i .i64 0,.sl .full [],.sl .full []])),(4,(q9 Tryz.prog 31,.agg [.i .i64 1,.i .i64 0,.sl .full [],zC b.reads]))] (fun _=>0) ((B,.var UN (.agg [.ptr q.R kO [],.sl .no (strs b.outs),zW q.bo q.bi q.ba,.map (some q.W),rd,.s b.asks,.b true,.i .i64 0]))::(q.W,wrO b.wrote)::(q.RD++M)))
    (fun k=>k=0) (fun _=>0) 0 ?_ ?_ ?_
   ·apply Le.of<;>simp[zR,qI,z6]<;>try omega
   ·rfl
   rintro k rfl KL hN hE
   refine zrd zli ?_
   simp (disch:=omega) [zz]
   refine hE _ _ (by simp) ?_
   have hob2:JA b=[]:=by rw[hob,hk0];rfl
   simp (disch:=omega) [zz,hMe,hRe,hre,hwe,hme,ho1,hob2,hers,z7,qL,zC,Tryz.f51]
   refine back _ ?_
   rw[<-hbo']
   exact HSub.refl _
  ·have hTn:T≠q.W/\T≠c/\T≠B:=by
    simp[q8.keys]at hnd2
    exact⟨hnd2.1.1,hnd2.1.2.1,hnd2.1.2.2.1⟩
   obtain⟨nT1,nT2,nT3⟩:=hTn
   have nT1':¬q.W=T:=fun e=>nT1 e.symm
   have nT3':¬B=T:=fun e=>nT3 e.symm
   have hrk:=KU (cap:=cap) (ts:=ks) hj
   have hgA:=fun(k:Nat) (h:k<ks.length)=>x5 ks j k h
   refine⟨(T,y5 cap ks j)::(B,bo)::(q.W,wrO b.wrote)::(q.RD++M),⟨(c,wbO q.W)::(T,y5 cap ks j)::(B,bo)::(q.W,wrO b.wrote)::(q.RD++M),?_,(List.Sublist.refl _).cons _⟩,?_⟩
   ·refine List.perm_iff_count.2 fun a=>?_
    simp only[y5,List.count_append,List.count_cons,List.count_nil];omega
   simp (disch:=omega) [zz]
   rw[<-hbo2]
   refine AT.loop' (α:=Nat) (fun k=>St.of [(0,.av .ptr (.ptr B UN [])),(2,.loc 2 []),(4,.loc 4 []),(34,.av (.slice 9) (.msl T 9 0 ks.length cap)),(35,.av (.int .i64) (.i .i64 ks.length)),(36,.av (.int .i64) (.i .i64 k))]
     [(2,(q9 Tryz.prog 31,.agg [.i .i64 0,.i .i64 0,.sl .full [],.sl .full []])),(4,(q9 Tryz.prog 31,.agg [.i .i64 1,.i .i64 0,.sl (tkS 51 k) ((ks.take k).map fun p=>zK (foB b.wrote p)),zC b.reads]))] (fun j=>if j=51 then k else 0)
     ((T,y5 cap ks j)::(B,.var UN (.agg [.ptr q.R kO [],.sl .no (strs b.outs),zW q.bo q.bi q.ba,.map (some q.W),rd,.s b.asks,.b true,.i .i64 0]))::(q.W,wrO b.wrote)::(q.RD++M)))
    (fun k=>k<=ks.length) (fun k=>ks.length-k) 0 ?_ ?_ ?_
   ·apply Le.of<;>simp[zR,qI,tkS]<;>try omega
   ·omega
   rintro k hk KL hN hE
   refine zrd zli ?_
   by_cases hlt:k<ks.length
   ·have hlt':(k:Int)<ks.length:=by omega
    have hg:=hgA k hlt
    have hst:((ks.take (k+1)).map fun p=>zK (foB b.wrote p))=((ks.take k).map fun p=>zK (foB b.wrote p))++[zK (foB b.wrote ks[k])]:=by
     rw[List.take_succ_eq_append_getElem hlt,List.map_append];rfl
    have htl:((ks.take k).map fun p=>zK (foB b.wrote p)).length=k:=by rw[List.length_map,List.length_take];omega
    obtain⟨x,hx⟩:=zcC (hmem ks[k] (List.getElem_mem hlt))
    have hmf:=gA ks[k] b.wrote
    rw[hx]at hmf
    have hfo:zK (foB b.wrote ks[k])=.agg [.s ks[k],.s x.2]:=by
     unfold foB zK;simp[hx]
    rw[hfo]at hst
    obtain⟨p,hp⟩:∃p,p=ks[k]:=⟨_,rfl⟩
    rw[<-hp]at hg hst hmf
    cases k with
    | zero =>
     have hlt':(0:Int)<ks.length:=by omega
     simp (disch:=omega) [zz,hlt',hlt,hg,hmf,tkS,y5,wrO,nT1,nT1',nT3,nT3',n1,n1']
     (repeat with_reducible refine om ?_)
     simp (disch:=omega) [zz,yT]
     (repeat with_reducible refine om ?_)
     refine hN _ 1 ?_ (by omega) (by omega)
     rw[hst]
     apply Le.of<;>simp[zR,qI,tkS,y5,wrO]<;>try omega
     all_goals (intro j;by_cases hj:j=51<;>simp[hj])
    | succ k =>
     have hlt':(k:Int)+1<ks.length:=by omega
     have hge:(0:Int)<=(k:Int)+1:=by omega
     simp (disch:=omega) [zz,hlt',hlt,hg,hmf,tkS,y5,wrO,nT1,nT1',nT3,nT3',n1,n1']
     (repeat with_reducible refine om ?_)
     simp (disch:=omega) [zz,yT,htl]
     (repeat with_reducible refine om ?_)
     refine hN _ (k+2) ?_ (by omega) (by omega)
     rw[hst]
     apply Le.of<;>simp[zR,qI,tkS,y5,wrO]<;>try omega
     all_goals (intro j;by_cases hj:j=51<;>simp[hj])
   ·have hkn:k=ks.length:=by omega
    subst hkn
    have hlt':¬(ks.length:Int)<ks.length:=by omega
    simp (disch:=omega) [zz,hlt']
    refine hE _ _ (by simp) ?_
    have hfin:((ks.take ks.length).map fun p=>zK (foB b.wrote p))=(JA b).map zK:=by rw[List.take_length,hob,List.map_map];rfl
    have hen:AV.ers (ks.map fun p=>zK (foB b.wrote p))=(JA b).map zK:=by rw[hob,List.map_map];simp[AV.ers_eq,Function.comp_def]
    simp (disch:=omega) [zz,hMe,hRe,hre,hwe,hme,hrk,ho1,hen,hers,z7,qL,zC,Tryz.f51]
    refine back _ ?_
    rw[<-hbo']
    exact HSub.of_sub ((List.Sublist.refl _).cons _)
end Go.Proofs.YtdkieabmeiojjaaGreatDoor
