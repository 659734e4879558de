/- A box is told. No condition. -/
import Derived.Test.YtdkieabmeiojjaaGreatDoorBX5
set_option linter.unusedSimpArgs false
set_option linter.unusedVariables false
set_option linter.unusedSectionVars false
set_option maxHeartbeats 64000000
section
set_option maxRecDepth 100000
namespace Go.Proofs.YtdkieabmeiojjaaGreatDoor
open Go Go.Ab
open Classical
variable [Sel] [SelPow] [SelMax]
abbrev zg7:Cfg:=⟨fun _=>false,fun n=>n==1000010||n==2000048||n==2000050||n==1000011||n==2000056⟩
noncomputable def za5 (k:KnV) (b:zJ):zJ:={ b with reads:=b.reads++[QW k],run:=(Z2 k b.run).2 }
structure zgx (k:KnV) (b:zJ):Prop where
 give:(Z2 k b.run).1=0
 good:QE (za5 k b)
 go:∃n,goN n (za5 k b)=some (QX (za5 k b))
theorem ziU (B:Nat) {b:zJ} {H:q8} (hH:ZY B b H) (hg:QE b) (k:KnV) (hkl:k.data.length<=1000000000000000) (hr:b.reads.length<=1000)
  (hgo:b.over=false->k.path=b.asks->¬(k.is=true/\65536<k.data.length)->zgx k b) :
  q7 Tryz.prog 53 [.av .ptr (.ptr B UN []),.av KnT (jD k)] H fun y H'=>y=.av (.int .i64) (.i .i64 (y4 k b).1)/\ZY B (y4 k b).2 H':=by
 obtain⟨q,hq,rfl⟩:=hH
 obtain⟨_,hMe0,hHe,hre⟩:=hq.er B
 obtain⟨M,hM,hMe⟩:=JF.split hq B
 by_cases ho:b.over=true
 ·have hv:y4 k b=(19,b):=by unfold y4;exact if_pos ho
  rw[hv]
  refine q7.sub (R:=fun y H'=>y=.av (.int .i64) (.i .i64 19)/\∃H2,Ab.HSub H2 H'/\H2=q.core B b) ?_ fun y H' ⟨h1,H2,h2,h3⟩ _=>⟨H2,h2,h1,q,hq,h3⟩
  rw[hM]
  refine zov Tryz.func53 zg7 fun imm0 w0=>?_
  simp (disch:=omega) [zz,jD,zF,ho]
  simp (disch:=omega) [zz,hMe,hre,zW,Tryz.f53,ho]
  exact HSub.refl _
 have ho':b.over=false:=by simpa using ho
 by_cases hp:k.path=b.asks
 rotate_left
 ·have hv:y4 k b=(1,b):=by unfold y4;rw[if_neg ho,if_pos hp]
  rw[hv]
  refine q7.sub (R:=fun y H'=>y=.av (.int .i64) (.i .i64 1)/\∃H2,Ab.HSub H2 H'/\H2=q.core B b) ?_ fun y H' ⟨h1,H2,h2,h3⟩ _=>⟨H2,h2,h1,q,hq,h3⟩
  rw[hM]
  refine zov Tryz.func53 zg7 fun imm0 w0=>?_
  (simp (maxSteps:=2000000) (disch:=first|omega|assumption) [zz,-List.reduceReplicate,jD,zF,ho'])
  (repeat with_reducible refine om ?_)
  simp (disch:=omega) [zz,hp]
  simp (disch:=omega) [zz,hMe,hre,zW,Tryz.f53,ho']
  exact HSub.refl _
 by_cases hbig:k.is=true/\65536<k.data.length
 ·have hb':(65536:Int)<k.data.length:=by omega
  have hki:=hbig.1
  have hv:y4 k b=(6,b):=by unfold y4;rw[if_neg ho,if_neg (by simp[hp]),if_pos hbig]
  rw[hv]
  refine q7.sub (R:=fun y H'=>y=.av (.int .i64) (.i .i64 6)/\∃H2,Ab.HSub H2 H'/\H2=q.core B b) ?_ fun y H' ⟨h1,H2,h2,h3⟩ _=>⟨H2,h2,h1,q,hq,h3⟩
  rw[hM]
  refine zov Tryz.func53 zg7 fun imm0 w0=>?_
  simp (disch:=omega) [zz,jD,zF,ho',hp,hki,hb']
  (repeat with_reducible refine om ?_)
  simp (disch:=omega) [zz,hMe,hre,zW,Tryz.f53,ho']
  exact HSub.refl _
 have hv:y4 k b=(0,QX (za5 k b)):=by unfold y4;rw[if_neg ho,if_neg (by simp[hp]),if_neg hbig];rfl
 rw[hv]
 obtain⟨hgv,hgg,n,hgn⟩:=hgo ho' hp hbig
 obtain⟨r',hr'⟩:∃r',r'=(Z2 k b.run).2:=⟨_,rfl⟩
 have hgiv:=zmp q.R hq.run hg.good k (by omega)
 rw[hgv,<-hr']at hgiv
 refine q7.nodup fun hnd=>?_
 obtain⟨rk,hrk⟩:∃rk,rk=QW k:=⟨_,rfl⟩
 obtain⟨b1,hb1⟩:∃b1,b1=za5 k b:=⟨_,rfl⟩
 have hb1':b1={ b with reads:=b.reads++[rk],run:=r' }:=by rw[hb1,hrk,hr'];rfl
 rw[<-hb1]at hgg hgn |-
 refine q7.sub (R:=fun y H'=>y=.av (.int .i64) (.i .i64 0)/\∃H2,Ab.HSub H2 H'/\ZY B (QX b1) H2) ?_ fun y H' ⟨h1,H2,h2,h3⟩ _=>⟨H2,h2,h1,h3⟩
 obtain⟨N,hN⟩:∃N:q8,N=(q.W,wrO b.wrote)::(WK q.bo q.bi q.ba b.outs q.ins q.ask):=⟨_,rfl⟩
 have hNe:N.er=N:=by rw[hN,q8.er_cons,JO,gK]
 have hp1:(q.core B b).Perm ((B,zF q.R b.outs (zW q.bo q.bi q.ba) q.W q.rd b.asks b.over b.why)::(q.RD++(q.HR++N))):=by
  refine List.perm_iff_count.2 fun a=>?_
  simp only[JF.core,JF.M,hN,List.count_append,List.count_cons];omega
 have hnd1:(q8.keys ((B,zF q.R b.outs (zW q.bo q.bi q.ba) q.W q.rd b.asks b.over b.why)::(q.RD++(q.HR++N)))).Nodup:=(hp1.map Prod.fst).nodup_iff.1 hnd
  -- how it ends
 have fin:∀(rd':AV) (RD' HR':q8),cO (b.reads++[rk]) rd' RD'->qQ q.R r' HR'->∃H2,ZY B b1 H2/\((B,zF q.R b.outs (zW q.bo q.bi q.ba) q.W rd' b.asks b.over b.why)::(RD'++(HR'++N))).Perm H2:=by
  intro rd' RD' HR' h1 h2
  refine⟨({ q with rd:=rd',RD:=RD',HR:=HR' }:JF).core B b1,⟨{ q with rd:=rd',RD:=RD',HR:=HR' },⟨by rw[hb1'];exact h2,by rw[hb1'];exact h1,by rw[hb1'];exact hq.may,by rw[hb1'];exact hq.mb⟩,rfl⟩,?_⟩
  refine List.perm_iff_count.2 fun a=>?_
  rw[hb1']
  simp only[JF.core,JF.M,hN,List.count_append,List.count_cons];omega
 refine q7.perm hp1 ?_
 clear hnd hp1
 have hsum:=fun(h:k.is=true)=>zlD k.data (Nat.le_trans (Nat.le_of_not_lt fun e=>hbig ⟨h,e⟩) (by decide))
 have hrde:q.rd.er=q.rd:=by
  rcases hq.reads with⟨_,e,_⟩|⟨T,cap,j,_,e,_⟩<;>rw[e]<;>rfl
 have hme:(zW q.bo q.bi q.ba).erk=zW q.bo q.bi q.ba:=rfl
 have hzd:AV.agg (List.replicate 32 (.i .u8 0))=JG zcR:=by simp[JG,zcR]
 cases hki:k.is with
 | true =>
  have hb':¬(65536:Int)<k.data.length:=by
   intro h;exact hbig ⟨hki,by omega⟩
  have hrk2:rk=⟨k.path,true,sha k.data⟩:=by rw[hrk];simp[QW,hki]
  have hrkE:qX rk=AV.agg [.s b.asks,.b true,JG (sha k.data)]:=by rw[hrk2,hp];rfl
  rcases hq.reads with⟨hr0,hrd,hRD⟩|⟨T,cap,j,hj,hrd,hcap,hRD⟩
  ·rw[hRD,hrd]at hnd1 |-
   simp[q8.keys]at hnd1
   refine zov Tryz.func53 zg7 fun imm0 w0=>?_
   simp (disch:=omega) [zz,jD,zF,ho',hp,hki,hb']
   (repeat with_reducible refine om ?_)
   refine qO (hsum hki) rfl rfl (by simp) (by simp[qR,TV.er,AV.er,AV.ers,zeQ]) ?_
   simp (disch:=omega) [zz,-List.reduceReplicate]
   refine jO.ofK [0,1,2,3,4,5,6,7,8,9,10] [0] [] (by kernel_rfl) ?_
   simp (disch:=omega) [zz,-List.reduceReplicate]
   (repeat with_reducible refine om ?_)
   intro bT cap' c1 c2 c3 c4
   have c1':¬B=bT:=fun e=>c1 e.symm
   (simp (maxSteps:=2000000) (disch:=first|omega|assumption) [zz,-List.reduceReplicate,c1,c1'])
   (repeat with_reducible refine om ?_)
   have hrow:[(bT,kM cap' (b.reads++[rk]) (List.replicate (cap'-1) (.agg [.s [],.b false,.agg (List.replicate 32 (.i .u8 0))])))]=[(bT,.var (.arr cap' 97) (.agg (AV.agg [.s b.asks,.b true,JG (sha k.data)]::List.replicate (cap'-1) (.agg [.s [],.b false,.agg (List.replicate 32 (.i .u8 0))]))))]:=by rw[hr0];simp[kM,hrkE]
   refine jO.ofK [0,1,2,3,4,5,6] [] [] (by kernel_rfl) ?_
   (simp (maxSteps:=2000000) (disch:=first|omega|assumption) [zz,-List.reduceReplicate,c1,c1'])
   (repeat with_reducible refine om ?_)
   refine qD (R:=fun y H'=>y=.av (.int .i64) (.i .i64 0)/\qQ q.R r' H') q.HR ((B,zF q.R b.outs (zW q.bo q.bi q.ba) q.W (.msl bT 97 0 1 cap') b.asks b.over b.why)::([(bT,kM cap' (b.reads++[rk]) (List.replicate (cap'-1) (.agg [.s [],.b false,.agg (List.replicate 32 (.i .u8 0))])))]++N)) ?_ rfl (by simp[qE]) (by simp) ?_ ?_
   ·rw[hrow]
    refine List.perm_iff_count.2 fun a=>?_
    simp only[zF,ho',List.count_append,List.count_cons,List.count_nil];omega
   ·rw[hHe]
    have hkf:k=⟨b.asks,k.is,k.data⟩:=by rw[<-hp]
    rw[hki]at hkf
    rw[hkf]at hgiv
    simpa[TV.er,AV.er,AV.ers,jD]using hgiv
   rintro y HR' ⟨rfl,hrun'⟩ _
   obtain⟨H2,hH2,hperm⟩:=fin (.msl bT 97 0 1 cap') ([(bT,kM cap' (b.reads++[rk]) (List.replicate (cap'-1) (.agg [.s [],.b false,.agg (List.replicate 32 (.i .u8 0))])))]) HR' (by rw[hr0];exact .inr ⟨bT,cap',_,JK.rep rfl _,rfl,by simp;omega,rfl⟩) hrun'
   have hH2e:H2.er=H2:=by
    obtain⟨q2,hq2,rfl⟩:=hH2
    exact(hq2.er B).1
   have hgo2:=Y2 B hH2 hgg n hgn
   refine⟨H2,HSub.of_perm ?_,?_⟩
   ·refine List.Perm.trans ?_ hperm
    refine List.perm_iff_count.2 fun a=>?_
    simp only[List.count_append,List.count_cons,List.count_nil];omega
   simp (disch:=omega) [zz,-List.reduceReplicate]
   refine qD (R:=fun y H'=>y=.tup []/\ZY B (QX b1) H') H2 [] (by simp) rfl (by simp[qE]) (by simp) ?_ ?_
   ·rw[hH2e]
    simpa[TV.er,AV.er]using hgo2
   rintro y H' ⟨rfl,hfin⟩ _
   refine⟨H',by simpa using HSub.refl _,?_⟩
   have hfe:H'.er=H':=by
    obtain⟨q2,hq2,rfl⟩:=hfin
    exact(hq2.er B).1
   simp (disch:=omega) [zz,-List.reduceReplicate,hfe,Tryz.f53]
   exact⟨H',HSub.refl _,hfin⟩
  ·rw[hRD,hrd]at hnd1 |-
   simp[q8.keys]at hnd1
   obtain⟨⟨nT,_⟩,_⟩:=hnd1
   have nT':¬T=B:=fun e=>nT e.symm
   have htk:(b.reads.map qX++j).take b.reads.length=b.reads.map qX:=by rw[List.take_append_of_le_length (by simp)];exact List.take_of_length_le (by simp)
   have hdr:(b.reads.map qX++j).drop (b.reads.length+1)=j.tail:=by
    rw[List.drop_append,List.drop_of_length_le (by simp)];simp
   refine zov Tryz.func53 zg7 fun imm0 w0=>?_
   simp (disch:=omega) [zz,-List.reduceReplicate,jD,zF,ho',hp,hki,hb']
   (repeat with_reducible refine om ?_)
   refine qO (hsum hki) rfl rfl (by simp) (by simp[qR,TV.er,AV.er,AV.ers,zeQ]) ?_
   simp (disch:=omega) [zz,-List.reduceReplicate]
   refine jO.ofK [0,1,2,3,4,5,6,7,8,9,10] [0] [] (by kernel_rfl) ?_
   simp (disch:=omega) [zz,-List.reduceReplicate,nT,nT',kM]
   (repeat with_reducible refine om ?_)
   refine⟨fun hroom=>?_,fun hgrow=>?_⟩
   ·(repeat with_reducible refine om ?_)
    have hrow:[(T,kM cap (b.reads++[rk]) j.tail)]=[(T,.var (.arr cap 97) (.agg ((b.reads.map qX++j).take b.reads.length++AV.agg [.s b.asks,.b true,JG (sha k.data)]::(b.reads.map qX++j).drop (b.reads.length+1))))]:=by rw[htk,hdr];simp[kM,hrkE]
    refine jO.ofK [0,1,2,3,4,5,6] [] [] (by kernel_rfl) ?_
    simp (disch:=omega) [zz,-List.reduceReplicate,nT,nT']
    (repeat with_reducible refine om ?_)
    refine qD (R:=fun y H'=>y=.av (.int .i64) (.i .i64 0)/\qQ q.R r' H') q.HR ((B,zF q.R b.outs (zW q.bo q.bi q.ba) q.W (.msl T 97 0 (b.reads.length+1) cap) b.asks b.over b.why)::([(T,kM cap (b.reads++[rk]) j.tail)]++N)) ?_ rfl (by simp[qE]) (by simp) ?_ ?_
    ·rw[hrow]
     refine List.perm_iff_count.2 fun a=>?_
     simp only[zF,ho',List.count_append,List.count_cons,List.count_nil];omega
    ·rw[hHe]
     have hkf:k=⟨b.asks,k.is,k.data⟩:=by rw[<-hp]
     rw[hki]at hkf
     rw[hkf]at hgiv
     simpa[TV.er,AV.er,AV.ers,jD]using hgiv
    rintro y HR' ⟨rfl,hrun'⟩ _
    obtain⟨H2,hH2,hperm⟩:=fin (.msl T 97 0 (b.reads.length+1) cap) ([(T,kM cap (b.reads++[rk]) j.tail)]) HR' (by exact .inr ⟨T,cap,j.tail,hj.tail,by simp,by simp;omega,rfl⟩) hrun'
    have hH2e:H2.er=H2:=by
     obtain⟨q2,hq2,rfl⟩:=hH2
     exact(hq2.er B).1
    have hgo2:=Y2 B hH2 hgg n hgn
    refine⟨H2,HSub.of_perm ?_,?_⟩
    ·refine List.Perm.trans ?_ hperm
     refine List.perm_iff_count.2 fun a=>?_
     simp only[List.count_append,List.count_cons,List.count_nil];omega
    (simp (maxSteps:=2000000) (disch:=first|omega|assumption) [zz,-List.reduceReplicate])
    refine qD (R:=fun y H'=>y=.tup []/\ZY B (QX b1) H') H2 [] (by simp) rfl (by simp[qE]) (by simp) ?_ ?_
    ·rw[hH2e]
     simpa[TV.er,AV.er]using hgo2
    rintro y H' ⟨rfl,hfin⟩ _
    refine⟨H',by simpa using HSub.refl _,?_⟩
    have hfe:H'.er=H':=by
     obtain⟨q2,hq2,rfl⟩:=hfin
     exact(hq2.er B).1
    (simp (maxSteps:=2000000) (disch:=first|omega|assumption) [zz,-List.reduceReplicate,hfe,Tryz.f53])
    exact⟨H',HSub.refl _,hfin⟩
   ·intro bT cap2 c1 c2 c3 c4 c5
    have c1':¬B=bT:=fun e=>c1 e.symm
    (repeat with_reducible refine om ?_)
    (simp (maxSteps:=2000000) (disch:=first|omega|assumption) [zz,-List.reduceReplicate,nT,nT',c1,c1'])
    (repeat with_reducible refine om ?_)
    have hrow:[(bT,kM cap2 (b.reads++[rk]) (List.replicate (cap2-(b.reads.length+1)) (.agg [.s [],.b false,.agg (List.replicate 32 (.i .u8 0))])))]=[(bT,.var (.arr cap2 97) (.agg ((b.reads.map qX++j).take b.reads.length++AV.agg [.s b.asks,.b true,JG (sha k.data)]::List.replicate (cap2-(b.reads.length+1)) (.agg [.s [],.b false,.agg (List.replicate 32 (.i .u8 0))]))))]:=by rw[htk];simp[kM,hrkE]
    refine jO.ofK [0,1,2,3,4,5,6] [] [] (by kernel_rfl) ?_
    (simp (maxSteps:=2000000) (disch:=first|omega|assumption) [zz,-List.reduceReplicate,nT,nT',c1,c1'])
    (repeat with_reducible refine om ?_)
    refine qD (R:=fun y H'=>y=.av (.int .i64) (.i .i64 0)/\qQ q.R r' H') q.HR ((B,zF q.R b.outs (zW q.bo q.bi q.ba) q.W (.msl bT 97 0 (b.reads.length+1) cap2) b.asks b.over b.why)::([(bT,kM cap2 (b.reads++[rk]) (List.replicate (cap2-(b.reads.length+1)) (.agg [.s [],.b false,.agg (List.replicate 32 (.i .u8 0))])))]++((T,.var (.arr cap 97) (.agg (b.reads.map qX++j)))::N))) ?_ rfl (by simp[qE]) (by simp) ?_ ?_
    ·rw[hrow]
     refine List.perm_iff_count.2 fun a=>?_
     simp only[zF,ho',List.count_append,List.count_cons,List.count_nil];omega
    ·rw[hHe]
     have hkf:k=⟨b.asks,k.is,k.data⟩:=by rw[<-hp]
     rw[hki]at hkf
     rw[hkf]at hgiv
     simpa[TV.er,AV.er,AV.ers,jD]using hgiv
    rintro y HR' ⟨rfl,hrun'⟩ _
    obtain⟨H2,hH2,hperm⟩:=fin (.msl bT 97 0 (b.reads.length+1) cap2) ([(bT,kM cap2 (b.reads++[rk]) (List.replicate (cap2-(b.reads.length+1)) (.agg [.s [],.b false,.agg (List.replicate 32 (.i .u8 0))])))]) HR' (by exact .inr ⟨bT,cap2,_,JK.rep rfl _,by simp,by simp;omega,rfl⟩) hrun'
    have hH2e:H2.er=H2:=by
     obtain⟨q2,hq2,rfl⟩:=hH2
     exact(hq2.er B).1
    have hgo2:=Y2 B hH2 hgg n hgn
    refine⟨H2,⟨(T,.var (.arr cap 97) (.agg (b.reads.map qX++j)))::H2,?_,(List.Sublist.refl _).cons _⟩,?_⟩
    ·refine List.Perm.trans ?_ (hperm.cons _)
     refine List.perm_iff_count.2 fun a=>?_
     simp only[List.count_append,List.count_cons,List.count_nil];omega
    simp (disch:=omega) [zz]
    refine qD (R:=fun y H'=>y=.tup []/\ZY B (QX b1) H') H2 [] (by simp) rfl (by simp[qE]) (by simp) ?_ ?_
    ·rw[hH2e]
     simpa[TV.er,AV.er]using hgo2
    rintro y H' ⟨rfl,hfin⟩ _
    refine⟨H',by simpa using HSub.refl _,?_⟩
    have hfe:H'.er=H':=by
     obtain⟨q2,hq2,rfl⟩:=hfin
     exact(hq2.er B).1
    simp (disch:=omega) [zz,hfe,Tryz.f53]
    exact⟨H',HSub.refl _,hfin⟩
 | false =>
  have hrk2:rk=⟨k.path,false,zcR⟩:=by rw[hrk];simp[QW,hki]
  have hrkE:qX rk=AV.agg [.s b.asks,.b false,.agg (List.replicate 32 (.i .u8 0))]:=by rw[hrk2,hzd,hp];rfl
  rcases hq.reads with⟨hr0,hrd,hRD⟩|⟨T,cap,j,hj,hrd,hcap,hRD⟩
  ·rw[hRD,hrd]at hnd1 |-
   simp[q8.keys]at hnd1
   refine zov Tryz.func53 zg7 fun imm0 w0=>?_
   simp (disch:=omega) [zz,-List.reduceReplicate,jD,zF,ho',hp,hki,]
   (repeat with_reducible refine om ?_)
   refine jO.ofK [0,1,2,3,4,5,6,7,8,9,10] [0] [] (by kernel_rfl) ?_
   simp (disch:=omega) [zz,-List.reduceReplicate]
   (repeat with_reducible refine om ?_)
   intro bT cap' c1 c2 c3 c4
   have c1':¬B=bT:=fun e=>c1 e.symm
   (simp (maxSteps:=2000000) (disch:=first|omega|assumption) [zz,-List.reduceReplicate,c1,c1'])
   (repeat with_reducible refine om ?_)
   have hrow:[(bT,kM cap' (b.reads++[rk]) (List.replicate (cap'-1) (.agg [.s [],.b false,.agg (List.replicate 32 (.i .u8 0))])))]=[(bT,.var (.arr cap' 97) (.agg (AV.agg [.s b.asks,.b false,.agg (List.replicate 32 (.i .u8 0))]::List.replicate (cap'-1) (.agg [.s [],.b false,.agg (List.replicate 32 (.i .u8 0))]))))]:=by rw[hr0];simp[kM,hrkE]
   refine jO.ofK [0,1,2,3,4,5,6] [] [] (by kernel_rfl) ?_
   (simp (maxSteps:=2000000) (disch:=first|omega|assumption) [zz,-List.reduceReplicate,c1,c1'])
   (repeat with_reducible refine om ?_)
   refine qD (R:=fun y H'=>y=.av (.int .i64) (.i .i64 0)/\qQ q.R r' H') q.HR ((B,zF q.R b.outs (zW q.bo q.bi q.ba) q.W (.msl bT 97 0 1 cap') b.asks b.over b.why)::([(bT,kM cap' (b.reads++[rk]) (List.replicate (cap'-1) (.agg [.s [],.b false,.agg (List.replicate 32 (.i .u8 0))])))]++N)) ?_ rfl (by simp[qE]) (by simp) ?_ ?_
   ·rw[hrow]
    refine List.perm_iff_count.2 fun a=>?_
    simp only[zF,ho',List.count_append,List.count_cons,List.count_nil];omega
   ·rw[hHe]
    have hkf:k=⟨b.asks,k.is,k.data⟩:=by rw[<-hp]
    rw[hki]at hkf
    rw[hkf]at hgiv
    simpa[TV.er,AV.er,AV.ers,jD]using hgiv
   rintro y HR' ⟨rfl,hrun'⟩ _
   obtain⟨H2,hH2,hperm⟩:=fin (.msl bT 97 0 1 cap') ([(bT,kM cap' (b.reads++[rk]) (List.replicate (cap'-1) (.agg [.s [],.b false,.agg (List.replicate 32 (.i .u8 0))])))]) HR' (by rw[hr0];exact .inr ⟨bT,cap',_,JK.rep rfl _,rfl,by simp;omega,rfl⟩) hrun'
   have hH2e:H2.er=H2:=by
    obtain⟨q2,hq2,rfl⟩:=hH2
    exact(hq2.er B).1
   have hgo2:=Y2 B hH2 hgg n hgn
   refine⟨H2,HSub.of_perm ?_,?_⟩
   ·refine List.Perm.trans ?_ hperm
    refine List.perm_iff_count.2 fun a=>?_
    simp only[List.count_append,List.count_cons,List.count_nil];omega
   simp (disch:=omega) [zz]
   refine qD (R:=fun y H'=>y=.tup []/\ZY B (QX b1) H') H2 [] (by simp) rfl (by simp[qE]) (by simp) ?_ ?_
   ·rw[hH2e]
    simpa[TV.er,AV.er]using hgo2
   rintro y H' ⟨rfl,hfin⟩ _
   refine⟨H',by simpa using HSub.refl _,?_⟩
   have hfe:H'.er=H':=by
    obtain⟨q2,hq2,rfl⟩:=hfin
    exact(hq2.er B).1
   simp (disch:=omega) [zz,-List.reduceReplicate,hfe,Tryz.f53]
   exact⟨H',HSub.refl _,hfin⟩
  ·rw[hRD,hrd]at hnd1 |-
   simp[q8.keys]at hnd1
   obtain⟨⟨nT,_⟩,_⟩:=hnd1
   have nT':¬T=B:=fun e=>nT e.symm
   have htk:(b.reads.map qX++j).take b.reads.length=b.reads.map qX:=by rw[List.take_append_of_le_length (by simp)];exact List.take_of_length_le (by simp)
   have hdr:(b.reads.map qX++j).drop (b.reads.length+1)=j.tail:=by
    rw[List.drop_append,List.drop_of_length_le (by simp)];simp
   refine zov Tryz.func53 zg7 fun imm0 w0=>?_
   simp (disch:=omega) [zz,-List.reduceReplicate,jD,zF,ho',hp,hki,]
   (repeat with_reducible refine om ?_)
   refine jO.ofK [0,1,2,3,4,5,6,7,8,9,10] [0] [] (by kernel_rfl) ?_
   (simp (maxSteps:=2000000) (disch:=first|omega|assumption) [zz,-List.reduceReplicate,nT,nT',kM])
   (repeat with_reducible refine om ?_)
   refine⟨fun hroom=>?_,fun hgrow=>?_⟩
   ·(repeat with_reducible refine om ?_)
    have hrow:[(T,kM cap (b.reads++[rk]) j.tail)]=[(T,.var (.arr cap 97) (.agg ((b.reads.map qX++j).take b.reads.length++AV.agg [.s b.asks,.b false,.agg (List.replicate 32 (.i .u8 0))]::(b.reads.map qX++j).drop (b.reads.length+1))))]:=by rw[htk,hdr];simp[kM,hrkE]
    refine jO.ofK [0,1,2,3,4,5,6] [] [] (by kernel_rfl) ?_
    (simp (maxSteps:=2000000) (disch:=first|omega|assumption) [zz,-List.reduceReplicate,nT,nT'])
    (repeat with_reducible refine om ?_)
    refine qD (R:=fun y H'=>y=.av (.int .i64) (.i .i64 0)/\qQ q.R r' H') q.HR ((B,zF q.R b.outs (zW q.bo q.bi q.ba) q.W (.msl T 97 0 (b.reads.length+1) cap) b.asks b.over b.why)::([(T,kM cap (b.reads++[rk]) j.tail)]++N)) ?_ rfl (by simp[qE]) (by simp) ?_ ?_
    ·rw[hrow]
     refine List.perm_iff_count.2 fun a=>?_
     simp only[zF,ho',List.count_append,List.count_cons,List.count_nil];omega
    ·rw[hHe]
     have hkf:k=⟨b.asks,k.is,k.data⟩:=by rw[<-hp]
     rw[hki]at hkf
     rw[hkf]at hgiv
     simpa[TV.er,AV.er,AV.ers,jD]using hgiv
    rintro y HR' ⟨rfl,hrun'⟩ _
    obtain⟨H2,hH2,hperm⟩:=fin (.msl T 97 0 (b.reads.length+1) cap) ([(T,kM cap (b.reads++[rk]) j.tail)]) HR' (by exact .inr ⟨T,cap,j.tail,hj.tail,by simp,by simp;omega,rfl⟩) hrun'
    have hH2e:H2.er=H2:=by
     obtain⟨q2,hq2,rfl⟩:=hH2
     exact(hq2.er B).1
    have hgo2:=Y2 B hH2 hgg n hgn
    refine⟨H2,HSub.of_perm ?_,?_⟩
    ·refine List.Perm.trans ?_ hperm
     refine List.perm_iff_count.2 fun a=>?_
     simp only[List.count_append,List.count_cons,List.count_nil];omega
    simp (disch:=omega) [zz,-List.reduceReplicate]
    refine qD (R:=fun y H'=>y=.tup []/\ZY B (QX b1) H') H2 [] (by simp) rfl (by simp[qE]) (by simp) ?_ ?_
    ·rw[hH2e]
     simpa[TV.er,AV.er]using hgo2
    rintro y H' ⟨rfl,hfin⟩ _
    refine⟨H',by simpa using HSub.refl _,?_⟩
    have hfe:H'.er=H':=by
     obtain⟨q2,hq2,rfl⟩:=hfin
     exact(hq2.er B).1
    simp (disch:=omega) [zz,-List.reduceReplicate,hfe,Tryz.f53]
    exact⟨H',HSub.refl _,hfin⟩
   ·intro bT cap2 c1 c2 c3 c4 c5
    have c1':¬B=bT:=fun e=>c1 e.symm
    (repeat with_reducible refine om ?_)
    (simp (maxSteps:=2000000) (disch:=first|omega|assumption) [zz,-List.reduceReplicate,nT,nT',c1,c1'])
    (repeat with_reducible refine om ?_)
    have hrow:[(bT,kM cap2 (b.reads++[rk]) (List.replicate (cap2-(b.reads.length+1)) (.agg [.s [],.b false,.agg (List.replicate 32 (.i .u8 0))])))]=[(bT,.var (.arr cap2 97) (.agg ((b.reads.map qX++j).take b.reads.length++AV.agg [.s b.asks,.b false,.agg (List.replicate 32 (.i .u8 0))]::List.replicate (cap2-(b.reads.length+1)) (.agg [.s [],.b false,.agg (List.replicate 32 (.i .u8 0))]))))]:=by rw[htk];simp[kM,hrkE]
    refine jO.ofK [0,1,2,3,4,5,6] [] [] (by kernel_rfl) ?_
    (simp (maxSteps:=2000000) (disch:=first|omega|assumption) [zz,-List.reduceReplicate,nT,nT',c1,c1'])
    (repeat with_reducible refine om ?_)
    refine qD (R:=fun y H'=>y=.av (.int .i64) (.i .i64 0)/\qQ q.R r' H') q.HR ((B,zF q.R b.outs (zW q.bo q.bi q.ba) q.W (.msl bT 97 0 (b.reads.length+1) cap2) b.asks b.over b.why)::([(bT,kM cap2 (b.reads++[rk]) (List.replicate (cap2-(b.reads.length+1)) (.agg [.s [],.b false,.agg (List.replicate 32 (.i .u8 0))])))]++((T,.var (.arr cap 97) (.agg (b.reads.map qX++j)))::N))) ?_ rfl (by simp[qE]) (by simp) ?_ ?_
    ·rw[hrow]
     refine List.perm_iff_count.2 fun a=>?_
     simp only[zF,ho',List.count_append,List.count_cons,List.count_nil];omega
    ·rw[hHe]
     have hkf:k=⟨b.asks,k.is,k.data⟩:=by rw[<-hp]
     rw[hki]at hkf
     rw[hkf]at hgiv
     simpa[TV.er,AV.er,AV.ers,jD]using hgiv
    rintro y HR' ⟨rfl,hrun'⟩ _
    obtain⟨H2,hH2,hperm⟩:=fin (.msl bT 97 0 (b.reads.length+1) cap2) ([(bT,kM cap2 (b.reads++[rk]) (List.replicate (cap2-(b.reads.length+1)) (.agg [.s [],.b false,.agg (List.replicate 32 (.i .u8 0))])))]) HR' (by exact .inr ⟨bT,cap2,_,JK.rep rfl _,by simp,by simp;omega,rfl⟩) hrun'
    have hH2e:H2.er=H2:=by
     obtain⟨q2,hq2,rfl⟩:=hH2
     exact(hq2.er B).1
    have hgo2:=Y2 B hH2 hgg n hgn
    refine⟨H2,⟨(T,.var (.arr cap 97) (.agg (b.reads.map qX++j)))::H2,?_,(List.Sublist.refl _).cons _⟩,?_⟩
    ·refine List.Perm.trans ?_ (hperm.cons _)
     refine List.perm_iff_count.2 fun a=>?_
     simp only[List.count_append,List.count_cons,List.count_nil];omega
    simp (disch:=omega) [zz]
    refine qD (R:=fun y H'=>y=.tup []/\ZY B (QX b1) H') H2 [] (by simp) rfl (by simp[qE]) (by simp) ?_ ?_
    ·rw[hH2e]
     simpa[TV.er,AV.er]using hgo2
    rintro y H' ⟨rfl,hfin⟩ _
    refine⟨H',by simpa using HSub.refl _,?_⟩
    have hfe:H'.er=H':=by
     obtain⟨q2,hq2,rfl⟩:=hfin
     exact(hq2.er B).1
    simp (disch:=omega) [zz,hfe,Tryz.f53]
    exact⟨H',HSub.refl _,hfin⟩
end Go.Proofs.YtdkieabmeiojjaaGreatDoor
end
section
set_option maxRecDepth 100000
namespace Go.Proofs.YtdkieabmeiojjaaGreatDoor
open Go Go.Ab
open Classical
variable [Sel] [SelPow] [SelMax]
structure WN (env:List (Txt × Txt)) (cs:List CmdV) (outs:List Txt) (may:Txt->Bool) (kn:List KnV) (b:zJ):Prop where
 g:QE b
 s:∃wr,X4 env (zcz cs) kn outs may wr b
section
variable {env:List (Txt × Txt)} {cs:List CmdV} {outs:List Txt} {may:Txt->Bool} {kn:List KnV} {b:zJ}
theorem WN.rl (h:WN env cs outs may kn b):b.reads.length<=500:=by
 obtain⟨wr,hs⟩:=h.s
 rw[hs.reads,List.length_map];exact hs.len
theorem WN.wl (h:WN env cs outs may kn b) (ho:outs.length<=1000000):b.wrote.length<=1000000:=by
 obtain⟨wr,hs⟩:=h.s
 have h1:(wr.map (·.path)).length<=outs.length:=List.Nodup.length_le_of_subset hs.nod fun p hp=>by
  obtain⟨w,hw,rfl⟩:=List.mem_map.1 hp
  exact hs.own w hw
 rw[hs.wrote,List.length_map]
 simp only[List.length_map]at h1
 omega
theorem WN.can (h:WN env cs outs may kn b) (k:KnV) (ho:b.over=false) (hp:k.path=b.asks) (hd:k.is=true->k.data.length<=65536):zgx k b:=by
 obtain⟨wr,hs⟩:=h.s
 obtain⟨h1,h2⟩:=hs.tell ho k hp hd
 exact⟨h2,⟨h.g.good.give k (fun h=>by have:=hd h;omega),h.g.ask.give h.g.good.inv k,h1.at_.ov,h1.no2⟩,⟨_,(G9 h1).1⟩⟩
theorem WN.give (h:WN env cs outs may kn b) (k:KnV) (ho:b.over=false) (hp:k.path=b.asks) (hd:k.is=true->k.data.length<=65536):(y4 k b).1=0/\WN env cs outs may (kn++[k]) (y4 k b).2:=by
 have hc:=h.can k ho hp hd
 obtain⟨wr,hs⟩:=h.s
 obtain⟨h1,m,h2⟩:=hs.give ho k hp hd
 refine⟨h1,?_,_,h2⟩
 have hv:(y4 k b).2=QX (za5 k b):=by unfold y4;rw[if_neg (by rw[ho];decide),if_neg (by simp[hp]),if_neg (fun h=>by have:=hd h.1;omega)];rfl
 obtain⟨n,hn⟩:=hc.go
 rw[hv]
 exact QE.goN n hn hc.good
end
theorem dV {t:Txt} {cs:List CmdV} (h:zL t=.ok cs) {env:List (Txt × Txt)} (h1:env.length<=1000000000) (h2:∀x∈env,x.2.length<=1000000000000000) (outs:List Txt) (may:Txt->Bool):WN env cs outs may [] (X3 env outs may cs):=by
 have hl:=Q8 h
 have hgo:=(G9 (zfr env outs may cs hl)).1
 exact⟨QE.goN _ hgo (p6 h h1 h2 outs may),zfq env outs may cs hl⟩
theorem zsy {b:zJ} (h:b.over=false):ZH b=(⟨0,0,[],[]⟩,false):=by unfold ZH;rw[if_pos h]
theorem zsA {b:zJ} (h:b.over=true):(ZH b).2=true:=by
 unfold ZH
 rw[if_neg (by rw[h];decide)]
 split<;>rfl
theorem zfo {b:zJ} (h:b.over=true):(ZH b).1.reads=b.reads:=by
 unfold ZH
 rw[if_neg (by rw[h];decide)]
 split<;>rfl
theorem WN.askl {env:List (Txt × Txt)} {cs:List CmdV} {outs:List Txt} {may:Txt->Bool} {kn:List KnV} {b:zJ} (h:WN env cs outs may kn b) (ho:b.over=false):b.asks.length<=1040:=by
 obtain⟨wr,hs⟩:=h.s
 cases hs.e with
 | waits d hs' h1 hm hw ha ha2 h3 h4=>rw[ha2];exact zdr (h.g.ask.ak hw)
 | read d _ _ _ h3 _=>rw[h3]at ho;cases ho
 | ended d _ _ _ h3 _=>rw[h3]at ho;cases ho
 | short d _ _ _ h3 _=>rw[h3]at ho;cases ho
 | failed d _ _ _ h3 _=>rw[h3]at ho;cases ho
 | wrote d _ _ h3 _=>rw[h3]at ho;cases ho
end Go.Proofs.YtdkieabmeiojjaaGreatDoor
end
section
set_option maxRecDepth 100000
namespace Go.Proofs.YtdkieabmeiojjaaGreatDoor
open Go Go.Ab
open Classical
variable [Sel] [SelPow] [SelMax]
def zol:Txt:=[114,101,97,100,32,97,10,119,114,105,116,101,32,111,117,116,47,111,10]
def zhp:Txt:=[111,117,116,47,111]
def znT:QT:=⟨[],[],zol,[],[],[[42]],[zhp]⟩
def alK:KnV:=⟨[97],true,[120]⟩
structure zqH (cs:List CmdV) (b b':zJ):Prop where
 k0:WN [] cs [zhp] (QS znT) [] b
 k1:WN [] cs [zhp] (QS znT) [alK] b'
 give:y4 alK b=(0,b')
 asks:b.asks=[97]
 open_:b.over=false
 out:ZH b'=(⟨1,0,[⟨zhp,[120]⟩],[⟨[97],true,sha [120]⟩]⟩,true)
end Go.Proofs.YtdkieabmeiojjaaGreatDoor
end
section
set_option maxRecDepth 100000
namespace Go.Proofs.YtdkieabmeiojjaaGreatDoor
open Go Go.Ab
open Classical
variable [Sel] [SelPow] [SelMax]
end Go.Proofs.YtdkieabmeiojjaaGreatDoor
end
section
set_option maxRecDepth 100000
namespace Go.Proofs.YtdkieabmeiojjaaGreatDoor
open Go Go.Ab
open Classical
variable [Sel] [SelPow] [SelMax]
end Go.Proofs.YtdkieabmeiojjaaGreatDoor
end
