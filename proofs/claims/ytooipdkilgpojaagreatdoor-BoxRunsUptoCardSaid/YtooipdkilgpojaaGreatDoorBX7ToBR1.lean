/- A box is told. No condition beyond each theorem's own. -/
import Derived.Test.YtooipdkilgpojaaGreatDoorS7ToBX5
import Derived.Test.YtooipdkilgpojaaGreatDoorBR0ToKK1
import Derived.Test.YtooipdkilgpojaaGreatDoorRW3ToGB1
set_option linter.unusedSimpArgs false
set_option linter.unusedVariables false
set_option linter.unusedSectionVars false
section
set_option maxRecDepth 100000
namespace Go.Proofs.YtooipdkilgpojaaGreatDoor
open Go Go.Ab
open Classical
variable [Sel] [SelPow] [SelMax]
abbrev zeJ:Cfg:=⟨fun _=>false,fun n=>n==1000010||n==2000048||n==2000050||n==1000011||n==2000056⟩
noncomputable def c9 (k:KnV) (b:zGo):zGo:={ b with reads:=b.reads++[J9 k],run:=(QB k b.run).2 }
structure zg6 (k:KnV) (b:zGo):Prop where
 give:(QB k b.run).1=0
 good:ZJ (c9 k b)
 go:∃n,goN n (c9 k b)=some (yQ (c9 k b))
set_option maxHeartbeats 32000000 in
theorem dW (B:Nat) {b:zGo} {H:q8} (hH:jJ B b H) (hg:ZJ b) (k:KnV) (hkl:k.data.length≤1000000000000000) (hr:b.reads.length≤1000)
  (hgo:b.over=false→k.path=b.asks→¬(k.is=true∧65536<k.data.length)→zg6 k b) :
  q7 Tryz.prog 18 [.av .ptr (.ptr B KD []),.av KnT (zH k)] H fun y H'=>y=.av (.int .i64) (.i .i64 (kB k b).1)∧jJ B (kB k b).2 H':=by
 obtain⟨q,hq,rfl⟩:=hH
 obtain⟨_,hMe0,hHe,hre⟩:=hq.er B
 obtain⟨M,hM,hMe⟩:=J3.split hq B
 by_cases ho:b.over=true
 ·have hv:kB k b=(19,b):=by unfold kB;exact if_pos ho
  rw[hv]
  refine q7.sub (R:=fun y H'=>y=.av (.int .i64) (.i .i64 19)∧∃H2,Ab.HSub H2 H'∧H2=q.core B b) ?_ fun y H' ⟨h1,H2,h2,h3⟩ _=>⟨H2,h2,h1,q,hq,h3⟩
  rw[hM]
  refine zov Tryz.func18 zeJ fun imm0 w0=>?_
  simp (disch:=omega) [zz,zH,zO,ho]
  simp (disch:=omega) [zz,hMe,hre,jA,Tryz.f18,ho]
  exact HSub.refl _
 have ho':b.over=false:=by simpa using ho
 by_cases hp:k.path=b.asks
 rotate_left
 ·have hv:kB k b=(1,b):=by unfold kB;rw[if_neg ho,if_pos hp]
  rw[hv]
  refine q7.sub (R:=fun y H'=>y=.av (.int .i64) (.i .i64 1)∧∃H2,Ab.HSub H2 H'∧H2=q.core B b) ?_ fun y H' ⟨h1,H2,h2,h3⟩ _=>⟨H2,h2,h1,q,hq,h3⟩
  rw[hM]
  refine zov Tryz.func18 zeJ fun imm0 w0=>?_
  (simp (maxSteps:=2000000) (disch:=first|omega|assumption) [zz,-List.reduceReplicate,zH,zO,ho'])
  (repeat with_reducible refine om ?_)
  simp (disch:=omega) [zz,hp]
  simp (disch:=omega) [zz,hMe,hre,jA,Tryz.f18,ho']
  exact HSub.refl _
 by_cases hbig:k.is=true∧65536<k.data.length
 ·have hb':(65536:Int)<k.data.length:=by omega
  have hki:=hbig.1
  have hv:kB k b=(6,b):=by unfold kB;rw[if_neg ho,if_neg (by simp[hp]),if_pos hbig]
  rw[hv]
  refine q7.sub (R:=fun y H'=>y=.av (.int .i64) (.i .i64 6)∧∃H2,Ab.HSub H2 H'∧H2=q.core B b) ?_ fun y H' ⟨h1,H2,h2,h3⟩ _=>⟨H2,h2,h1,q,hq,h3⟩
  rw[hM]
  refine zov Tryz.func18 zeJ fun imm0 w0=>?_
  simp (disch:=omega) [zz,zH,zO,ho',hp,hki,hb']
  (repeat with_reducible refine om ?_)
  simp (disch:=omega) [zz,hMe,hre,jA,Tryz.f18,ho']
  exact HSub.refl _
 have hv:kB k b=(0,yQ (c9 k b)):=by unfold kB;rw[if_neg ho,if_neg (by simp[hp]),if_neg hbig];rfl
 rw[hv]
 obtain⟨hgv,hgg,n,hgn⟩:=hgo ho' hp hbig
 obtain⟨r',hr'⟩:∃r',r'=(QB k b.run).2:=⟨_,rfl⟩
 have hgiv:=zmH q.R hq.run hg.good k (by omega)
 rw[hgv,←hr']at hgiv
 refine q7.nodup fun hnd=>?_
 obtain⟨rk,hrk⟩:∃rk,rk=J9 k:=⟨_,rfl⟩
 obtain⟨b1,hb1⟩:∃b1,b1=c9 k b:=⟨_,rfl⟩
 have hb1':b1={ b with reads:=b.reads++[rk],run:=r' }:=by rw[hb1,hrk,hr'];rfl
 rw[←hb1]at hgg hgn ⊢
 refine q7.sub (R:=fun y H'=>y=.av (.int .i64) (.i .i64 0)∧∃H2,Ab.HSub H2 H'∧jJ B (yQ b1) H2) ?_ fun y H' ⟨h1,H2,h2,h3⟩ _=>⟨H2,h2,h1,h3⟩
 obtain⟨N,hN⟩:∃N:q8,N=(q.W,wrO b.wrote)::(W8 q.bo q.bi q.ba b.outs q.ins q.ask):=⟨_,rfl⟩
 have hNe:N.er=N:=by rw[hN,q8.er_cons,QZ,vQ]
 have hp1:(q.core B b).Perm ((B,zO q.R b.outs (jA q.bo q.bi q.ba) q.W q.rd b.asks b.over b.why)::(q.RD++(q.HR++N))):=by
  refine List.perm_iff_count.2 fun a=>?_
  simp only[J3.core,J3.M,hN,List.count_append,List.count_cons];omega
 have hnd1:(q8.keys ((B,zO q.R b.outs (jA q.bo q.bi q.ba) q.W q.rd b.asks b.over b.why)::(q.RD++(q.HR++N)))).Nodup:=(hp1.map Prod.fst).nodup_iff.1 hnd
  -- how it ends
 have fin:∀(rd':AV) (RD' HR':q8),cM (b.reads++[rk]) rd' RD'→z6 q.R r' HR'→∃H2,jJ B b1 H2∧((B,zO q.R b.outs (jA q.bo q.bi q.ba) q.W rd' b.asks b.over b.why)::(RD'++(HR'++N))).Perm H2:=by
  intro rd' RD' HR' h1 h2
  refine⟨({ q with rd:=rd',RD:=RD',HR:=HR' }:J3).core B b1,⟨{ q with rd:=rd',RD:=RD',HR:=HR' },⟨by rw[hb1'];exact h2,by rw[hb1'];exact h1,by rw[hb1'];exact hq.may,by rw[hb1'];exact hq.mb⟩,rfl⟩,?_⟩
  refine List.perm_iff_count.2 fun a=>?_
  rw[hb1']
  simp only[J3.core,J3.M,hN,List.count_append,List.count_cons];omega
 refine q7.perm hp1 ?_
 clear hnd hp1
 have hsum:=fun(h:k.is=true)=>znJ k.data (Nat.le_trans (Nat.le_of_not_lt fun e=>hbig ⟨h,e⟩) (by decide))
 have hrde:q.rd.er=q.rd:=by
  rcases hq.reads with⟨_,e,_⟩|⟨T,cap,j,_,e,_⟩<;>rw[e]<;>rfl
 have hme:(jA q.bo q.bi q.ba).erk=jA q.bo q.bi q.ba:=rfl
 have hzd:AV.agg (List.replicate 32 (.i .u8 0))=KW zc4:=by simp[KW,zc4]
 cases hki:k.is with
 | true =>
  have hb':¬(65536:Int)<k.data.length:=by
   intro h;exact hbig ⟨hki,by omega⟩
  have hrk2:rk=⟨k.path,true,sha k.data⟩:=by rw[hrk];simp[J9,hki]
  have hrkE:qI rk=AV.agg [.s b.asks,.b true,KW (sha k.data)]:=by rw[hrk2,hp];rfl
  rcases hq.reads with⟨hr0,hrd,hRD⟩|⟨T,cap,j,hj,hrd,hcap,hRD⟩
  ·rw[hRD,hrd]at hnd1 ⊢
   simp[q8.keys]at hnd1
   refine zov Tryz.func18 zeJ fun imm0 w0=>?_
   simp (disch:=omega) [zz,zH,zO,ho',hp,hki,hb']
   (repeat with_reducible refine om ?_)
   refine qL (hsum hki) rfl rfl (by simp) (by simp[qS,TV.er,AV.er,AV.ers,zfI]) ?_
   simp (disch:=omega) [zz,-List.reduceReplicate]
   refine jW.ofK [0,1,2,3,4,5,6,7,8,9,10] [0] [] (by kernel_rfl) ?_
   simp (disch:=omega) [zz,-List.reduceReplicate]
   (repeat with_reducible refine om ?_)
   intro bT cap' c1 c2 c3 c4
   have c1':¬B=bT:=fun e=>c1 e.symm
   (simp (maxSteps:=2000000) (disch:=first|omega|assumption) [zz,-List.reduceReplicate,c1,c1'])
   (repeat with_reducible refine om ?_)
   have hrow:[(bT,kR cap' (b.reads++[rk]) (List.replicate (cap'-1) (.agg [.s [],.b false,.agg (List.replicate 32 (.i .u8 0))])))]=[(bT,.var (.arr cap' 79) (.agg (AV.agg [.s b.asks,.b true,KW (sha k.data)]::List.replicate (cap'-1) (.agg [.s [],.b false,.agg (List.replicate 32 (.i .u8 0))]))))]:=by rw[hr0];simp[kR,hrkE]
   refine jW.ofK [0,1,2,3,4,5,6] [] [] (by kernel_rfl) ?_
   (simp (maxSteps:=2000000) (disch:=first|omega|assumption) [zz,-List.reduceReplicate,c1,c1'])
   (repeat with_reducible refine om ?_)
   refine qE (R:=fun y H'=>y=.av (.int .i64) (.i .i64 0)∧z6 q.R r' H') q.HR ((B,zO q.R b.outs (jA q.bo q.bi q.ba) q.W (.msl bT 79 0 1 cap') b.asks b.over b.why)::([(bT,kR cap' (b.reads++[rk]) (List.replicate (cap'-1) (.agg [.s [],.b false,.agg (List.replicate 32 (.i .u8 0))])))]++N)) ?_ rfl (by simp[qQ]) (by simp) ?_ ?_
   ·rw[hrow]
    refine List.perm_iff_count.2 fun a=>?_
    simp only[zO,ho',List.count_append,List.count_cons,List.count_nil];omega
   ·rw[hHe]
    have hkf:k=⟨b.asks,k.is,k.data⟩:=by rw[←hp]
    rw[hki]at hkf
    rw[hkf]at hgiv
    simpa[TV.er,AV.er,AV.ers,zH]using hgiv
   rintro y HR' ⟨rfl,hrun'⟩ _
   obtain⟨H2,hH2,hperm⟩:=fin (.msl bT 79 0 1 cap') ([(bT,kR cap' (b.reads++[rk]) (List.replicate (cap'-1) (.agg [.s [],.b false,.agg (List.replicate 32 (.i .u8 0))])))]) HR' (by rw[hr0];exact .inr ⟨bT,cap',_,JK.rep rfl _,rfl,by simp;omega,rfl⟩) hrun'
   have hH2e:H2.er=H2:=by
    obtain⟨q2,hq2,rfl⟩:=hH2
    exact(hq2.er B).1
   have hgo2:=WP B hH2 hgg n hgn
   refine⟨H2,HSub.of_perm ?_,?_⟩
   ·refine List.Perm.trans ?_ hperm
    refine List.perm_iff_count.2 fun a=>?_
    simp only[List.count_append,List.count_cons,List.count_nil];omega
   simp (disch:=omega) [zz,-List.reduceReplicate]
   refine qE (R:=fun y H'=>y=.tup []∧jJ B (yQ b1) H') H2 [] (by simp) rfl (by simp[qQ]) (by simp) ?_ ?_
   ·rw[hH2e]
    simpa[TV.er,AV.er]using hgo2
   rintro y H' ⟨rfl,hfin⟩ _
   refine⟨H',by simpa using HSub.refl _,?_⟩
   have hfe:H'.er=H':=by
    obtain⟨q2,hq2,rfl⟩:=hfin
    exact(hq2.er B).1
   simp (disch:=omega) [zz,-List.reduceReplicate,hfe,Tryz.f18]
   exact⟨H',HSub.refl _,hfin⟩
  ·rw[hRD,hrd]at hnd1 ⊢
   simp[q8.keys]at hnd1
   obtain⟨⟨nT,_⟩,_⟩:=hnd1
   have nT':¬T=B:=fun e=>nT e.symm
   have htk:(b.reads.map qI++j).take b.reads.length=b.reads.map qI:=by rw[List.take_append_of_le_length (by simp)];exact List.take_of_length_le (by simp)
   have hdr:(b.reads.map qI++j).drop (b.reads.length+1)=j.tail:=by
    rw[List.drop_append,List.drop_of_length_le (by simp)];simp
   refine zov Tryz.func18 zeJ fun imm0 w0=>?_
   simp (disch:=omega) [zz,-List.reduceReplicate,zH,zO,ho',hp,hki,hb']
   (repeat with_reducible refine om ?_)
   refine qL (hsum hki) rfl rfl (by simp) (by simp[qS,TV.er,AV.er,AV.ers,zfI]) ?_
   simp (disch:=omega) [zz,-List.reduceReplicate]
   refine jW.ofK [0,1,2,3,4,5,6,7,8,9,10] [0] [] (by kernel_rfl) ?_
   simp (disch:=omega) [zz,-List.reduceReplicate,nT,nT',kR]
   (repeat with_reducible refine om ?_)
   refine⟨fun hroom=>?_,fun hgrow=>?_⟩
   ·(repeat with_reducible refine om ?_)
    have hrow:[(T,kR cap (b.reads++[rk]) j.tail)]=[(T,.var (.arr cap 79) (.agg ((b.reads.map qI++j).take b.reads.length++AV.agg [.s b.asks,.b true,KW (sha k.data)]::(b.reads.map qI++j).drop (b.reads.length+1))))]:=by rw[htk,hdr];simp[kR,hrkE]
    refine jW.ofK [0,1,2,3,4,5,6] [] [] (by kernel_rfl) ?_
    simp (disch:=omega) [zz,-List.reduceReplicate,nT,nT']
    (repeat with_reducible refine om ?_)
    refine qE (R:=fun y H'=>y=.av (.int .i64) (.i .i64 0)∧z6 q.R r' H') q.HR ((B,zO q.R b.outs (jA q.bo q.bi q.ba) q.W (.msl T 79 0 (b.reads.length+1) cap) b.asks b.over b.why)::([(T,kR cap (b.reads++[rk]) j.tail)]++N)) ?_ rfl (by simp[qQ]) (by simp) ?_ ?_
    ·rw[hrow]
     refine List.perm_iff_count.2 fun a=>?_
     simp only[zO,ho',List.count_append,List.count_cons,List.count_nil];omega
    ·rw[hHe]
     have hkf:k=⟨b.asks,k.is,k.data⟩:=by rw[←hp]
     rw[hki]at hkf
     rw[hkf]at hgiv
     simpa[TV.er,AV.er,AV.ers,zH]using hgiv
    rintro y HR' ⟨rfl,hrun'⟩ _
    obtain⟨H2,hH2,hperm⟩:=fin (.msl T 79 0 (b.reads.length+1) cap) ([(T,kR cap (b.reads++[rk]) j.tail)]) HR' (by exact .inr ⟨T,cap,j.tail,hj.tail,by simp,by simp;omega,rfl⟩) hrun'
    have hH2e:H2.er=H2:=by
     obtain⟨q2,hq2,rfl⟩:=hH2
     exact(hq2.er B).1
    have hgo2:=WP B hH2 hgg n hgn
    refine⟨H2,HSub.of_perm ?_,?_⟩
    ·refine List.Perm.trans ?_ hperm
     refine List.perm_iff_count.2 fun a=>?_
     simp only[List.count_append,List.count_cons,List.count_nil];omega
    (simp (maxSteps:=2000000) (disch:=first|omega|assumption) [zz,-List.reduceReplicate])
    refine qE (R:=fun y H'=>y=.tup []∧jJ B (yQ b1) H') H2 [] (by simp) rfl (by simp[qQ]) (by simp) ?_ ?_
    ·rw[hH2e]
     simpa[TV.er,AV.er]using hgo2
    rintro y H' ⟨rfl,hfin⟩ _
    refine⟨H',by simpa using HSub.refl _,?_⟩
    have hfe:H'.er=H':=by
     obtain⟨q2,hq2,rfl⟩:=hfin
     exact(hq2.er B).1
    (simp (maxSteps:=2000000) (disch:=first|omega|assumption) [zz,-List.reduceReplicate,hfe,Tryz.f18])
    exact⟨H',HSub.refl _,hfin⟩
   ·intro bT cap2 c1 c2 c3 c4 c5
    have c1':¬B=bT:=fun e=>c1 e.symm
    (repeat with_reducible refine om ?_)
    (simp (maxSteps:=2000000) (disch:=first|omega|assumption) [zz,-List.reduceReplicate,nT,nT',c1,c1'])
    (repeat with_reducible refine om ?_)
    have hrow:[(bT,kR cap2 (b.reads++[rk]) (List.replicate (cap2-(b.reads.length+1)) (.agg [.s [],.b false,.agg (List.replicate 32 (.i .u8 0))])))]=[(bT,.var (.arr cap2 79) (.agg ((b.reads.map qI++j).take b.reads.length++AV.agg [.s b.asks,.b true,KW (sha k.data)]::List.replicate (cap2-(b.reads.length+1)) (.agg [.s [],.b false,.agg (List.replicate 32 (.i .u8 0))]))))]:=by rw[htk];simp[kR,hrkE]
    refine jW.ofK [0,1,2,3,4,5,6] [] [] (by kernel_rfl) ?_
    (simp (maxSteps:=2000000) (disch:=first|omega|assumption) [zz,-List.reduceReplicate,nT,nT',c1,c1'])
    (repeat with_reducible refine om ?_)
    refine qE (R:=fun y H'=>y=.av (.int .i64) (.i .i64 0)∧z6 q.R r' H') q.HR ((B,zO q.R b.outs (jA q.bo q.bi q.ba) q.W (.msl bT 79 0 (b.reads.length+1) cap2) b.asks b.over b.why)::([(bT,kR cap2 (b.reads++[rk]) (List.replicate (cap2-(b.reads.length+1)) (.agg [.s [],.b false,.agg (List.replicate 32 (.i .u8 0))])))]++((T,.var (.arr cap 79) (.agg (b.reads.map qI++j)))::N))) ?_ rfl (by simp[qQ]) (by simp) ?_ ?_
    ·rw[hrow]
     refine List.perm_iff_count.2 fun a=>?_
     simp only[zO,ho',List.count_append,List.count_cons,List.count_nil];omega
    ·rw[hHe]
     have hkf:k=⟨b.asks,k.is,k.data⟩:=by rw[←hp]
     rw[hki]at hkf
     rw[hkf]at hgiv
     simpa[TV.er,AV.er,AV.ers,zH]using hgiv
    rintro y HR' ⟨rfl,hrun'⟩ _
    obtain⟨H2,hH2,hperm⟩:=fin (.msl bT 79 0 (b.reads.length+1) cap2) ([(bT,kR cap2 (b.reads++[rk]) (List.replicate (cap2-(b.reads.length+1)) (.agg [.s [],.b false,.agg (List.replicate 32 (.i .u8 0))])))]) HR' (by exact .inr ⟨bT,cap2,_,JK.rep rfl _,by simp,by simp;omega,rfl⟩) hrun'
    have hH2e:H2.er=H2:=by
     obtain⟨q2,hq2,rfl⟩:=hH2
     exact(hq2.er B).1
    have hgo2:=WP B hH2 hgg n hgn
    refine⟨H2,⟨(T,.var (.arr cap 79) (.agg (b.reads.map qI++j)))::H2,?_,(List.Sublist.refl _).cons _⟩,?_⟩
    ·refine List.Perm.trans ?_ (hperm.cons _)
     refine List.perm_iff_count.2 fun a=>?_
     simp only[List.count_append,List.count_cons,List.count_nil];omega
    simp (disch:=omega) [zz]
    refine qE (R:=fun y H'=>y=.tup []∧jJ B (yQ b1) H') H2 [] (by simp) rfl (by simp[qQ]) (by simp) ?_ ?_
    ·rw[hH2e]
     simpa[TV.er,AV.er]using hgo2
    rintro y H' ⟨rfl,hfin⟩ _
    refine⟨H',by simpa using HSub.refl _,?_⟩
    have hfe:H'.er=H':=by
     obtain⟨q2,hq2,rfl⟩:=hfin
     exact(hq2.er B).1
    simp (disch:=omega) [zz,hfe,Tryz.f18]
    exact⟨H',HSub.refl _,hfin⟩
 | false =>
  have hrk2:rk=⟨k.path,false,zc4⟩:=by rw[hrk];simp[J9,hki]
  have hrkE:qI rk=AV.agg [.s b.asks,.b false,.agg (List.replicate 32 (.i .u8 0))]:=by rw[hrk2,hzd,hp];rfl
  rcases hq.reads with⟨hr0,hrd,hRD⟩|⟨T,cap,j,hj,hrd,hcap,hRD⟩
  ·rw[hRD,hrd]at hnd1 ⊢
   simp[q8.keys]at hnd1
   refine zov Tryz.func18 zeJ fun imm0 w0=>?_
   simp (disch:=omega) [zz,-List.reduceReplicate,zH,zO,ho',hp,hki,]
   (repeat with_reducible refine om ?_)
   refine jW.ofK [0,1,2,3,4,5,6,7,8,9,10] [0] [] (by kernel_rfl) ?_
   simp (disch:=omega) [zz,-List.reduceReplicate]
   (repeat with_reducible refine om ?_)
   intro bT cap' c1 c2 c3 c4
   have c1':¬B=bT:=fun e=>c1 e.symm
   (simp (maxSteps:=2000000) (disch:=first|omega|assumption) [zz,-List.reduceReplicate,c1,c1'])
   (repeat with_reducible refine om ?_)
   have hrow:[(bT,kR cap' (b.reads++[rk]) (List.replicate (cap'-1) (.agg [.s [],.b false,.agg (List.replicate 32 (.i .u8 0))])))]=[(bT,.var (.arr cap' 79) (.agg (AV.agg [.s b.asks,.b false,.agg (List.replicate 32 (.i .u8 0))]::List.replicate (cap'-1) (.agg [.s [],.b false,.agg (List.replicate 32 (.i .u8 0))]))))]:=by rw[hr0];simp[kR,hrkE]
   refine jW.ofK [0,1,2,3,4,5,6] [] [] (by kernel_rfl) ?_
   (simp (maxSteps:=2000000) (disch:=first|omega|assumption) [zz,-List.reduceReplicate,c1,c1'])
   (repeat with_reducible refine om ?_)
   refine qE (R:=fun y H'=>y=.av (.int .i64) (.i .i64 0)∧z6 q.R r' H') q.HR ((B,zO q.R b.outs (jA q.bo q.bi q.ba) q.W (.msl bT 79 0 1 cap') b.asks b.over b.why)::([(bT,kR cap' (b.reads++[rk]) (List.replicate (cap'-1) (.agg [.s [],.b false,.agg (List.replicate 32 (.i .u8 0))])))]++N)) ?_ rfl (by simp[qQ]) (by simp) ?_ ?_
   ·rw[hrow]
    refine List.perm_iff_count.2 fun a=>?_
    simp only[zO,ho',List.count_append,List.count_cons,List.count_nil];omega
   ·rw[hHe]
    have hkf:k=⟨b.asks,k.is,k.data⟩:=by rw[←hp]
    rw[hki]at hkf
    rw[hkf]at hgiv
    simpa[TV.er,AV.er,AV.ers,zH]using hgiv
   rintro y HR' ⟨rfl,hrun'⟩ _
   obtain⟨H2,hH2,hperm⟩:=fin (.msl bT 79 0 1 cap') ([(bT,kR cap' (b.reads++[rk]) (List.replicate (cap'-1) (.agg [.s [],.b false,.agg (List.replicate 32 (.i .u8 0))])))]) HR' (by rw[hr0];exact .inr ⟨bT,cap',_,JK.rep rfl _,rfl,by simp;omega,rfl⟩) hrun'
   have hH2e:H2.er=H2:=by
    obtain⟨q2,hq2,rfl⟩:=hH2
    exact(hq2.er B).1
   have hgo2:=WP B hH2 hgg n hgn
   refine⟨H2,HSub.of_perm ?_,?_⟩
   ·refine List.Perm.trans ?_ hperm
    refine List.perm_iff_count.2 fun a=>?_
    simp only[List.count_append,List.count_cons,List.count_nil];omega
   simp (disch:=omega) [zz]
   refine qE (R:=fun y H'=>y=.tup []∧jJ B (yQ b1) H') H2 [] (by simp) rfl (by simp[qQ]) (by simp) ?_ ?_
   ·rw[hH2e]
    simpa[TV.er,AV.er]using hgo2
   rintro y H' ⟨rfl,hfin⟩ _
   refine⟨H',by simpa using HSub.refl _,?_⟩
   have hfe:H'.er=H':=by
    obtain⟨q2,hq2,rfl⟩:=hfin
    exact(hq2.er B).1
   simp (disch:=omega) [zz,-List.reduceReplicate,hfe,Tryz.f18]
   exact⟨H',HSub.refl _,hfin⟩
  ·rw[hRD,hrd]at hnd1 ⊢
   simp[q8.keys]at hnd1
   obtain⟨⟨nT,_⟩,_⟩:=hnd1
   have nT':¬T=B:=fun e=>nT e.symm
   have htk:(b.reads.map qI++j).take b.reads.length=b.reads.map qI:=by rw[List.take_append_of_le_length (by simp)];exact List.take_of_length_le (by simp)
   have hdr:(b.reads.map qI++j).drop (b.reads.length+1)=j.tail:=by
    rw[List.drop_append,List.drop_of_length_le (by simp)];simp
   refine zov Tryz.func18 zeJ fun imm0 w0=>?_
   simp (disch:=omega) [zz,-List.reduceReplicate,zH,zO,ho',hp,hki,]
   (repeat with_reducible refine om ?_)
   refine jW.ofK [0,1,2,3,4,5,6,7,8,9,10] [0] [] (by kernel_rfl) ?_
   (simp (maxSteps:=2000000) (disch:=first|omega|assumption) [zz,-List.reduceReplicate,nT,nT',kR])
   (repeat with_reducible refine om ?_)
   refine⟨fun hroom=>?_,fun hgrow=>?_⟩
   ·(repeat with_reducible refine om ?_)
    have hrow:[(T,kR cap (b.reads++[rk]) j.tail)]=[(T,.var (.arr cap 79) (.agg ((b.reads.map qI++j).take b.reads.length++AV.agg [.s b.asks,.b false,.agg (List.replicate 32 (.i .u8 0))]::(b.reads.map qI++j).drop (b.reads.length+1))))]:=by rw[htk,hdr];simp[kR,hrkE]
    refine jW.ofK [0,1,2,3,4,5,6] [] [] (by kernel_rfl) ?_
    (simp (maxSteps:=2000000) (disch:=first|omega|assumption) [zz,-List.reduceReplicate,nT,nT'])
    (repeat with_reducible refine om ?_)
    refine qE (R:=fun y H'=>y=.av (.int .i64) (.i .i64 0)∧z6 q.R r' H') q.HR ((B,zO q.R b.outs (jA q.bo q.bi q.ba) q.W (.msl T 79 0 (b.reads.length+1) cap) b.asks b.over b.why)::([(T,kR cap (b.reads++[rk]) j.tail)]++N)) ?_ rfl (by simp[qQ]) (by simp) ?_ ?_
    ·rw[hrow]
     refine List.perm_iff_count.2 fun a=>?_
     simp only[zO,ho',List.count_append,List.count_cons,List.count_nil];omega
    ·rw[hHe]
     have hkf:k=⟨b.asks,k.is,k.data⟩:=by rw[←hp]
     rw[hki]at hkf
     rw[hkf]at hgiv
     simpa[TV.er,AV.er,AV.ers,zH]using hgiv
    rintro y HR' ⟨rfl,hrun'⟩ _
    obtain⟨H2,hH2,hperm⟩:=fin (.msl T 79 0 (b.reads.length+1) cap) ([(T,kR cap (b.reads++[rk]) j.tail)]) HR' (by exact .inr ⟨T,cap,j.tail,hj.tail,by simp,by simp;omega,rfl⟩) hrun'
    have hH2e:H2.er=H2:=by
     obtain⟨q2,hq2,rfl⟩:=hH2
     exact(hq2.er B).1
    have hgo2:=WP B hH2 hgg n hgn
    refine⟨H2,HSub.of_perm ?_,?_⟩
    ·refine List.Perm.trans ?_ hperm
     refine List.perm_iff_count.2 fun a=>?_
     simp only[List.count_append,List.count_cons,List.count_nil];omega
    simp (disch:=omega) [zz,-List.reduceReplicate]
    refine qE (R:=fun y H'=>y=.tup []∧jJ B (yQ b1) H') H2 [] (by simp) rfl (by simp[qQ]) (by simp) ?_ ?_
    ·rw[hH2e]
     simpa[TV.er,AV.er]using hgo2
    rintro y H' ⟨rfl,hfin⟩ _
    refine⟨H',by simpa using HSub.refl _,?_⟩
    have hfe:H'.er=H':=by
     obtain⟨q2,hq2,rfl⟩:=hfin
     exact(hq2.er B).1
    simp (disch:=omega) [zz,-List.reduceReplicate,hfe,Tryz.f18]
    exact⟨H',HSub.refl _,hfin⟩
   ·intro bT cap2 c1 c2 c3 c4 c5
    have c1':¬B=bT:=fun e=>c1 e.symm
    (repeat with_reducible refine om ?_)
    (simp (maxSteps:=2000000) (disch:=first|omega|assumption) [zz,-List.reduceReplicate,nT,nT',c1,c1'])
    (repeat with_reducible refine om ?_)
    have hrow:[(bT,kR cap2 (b.reads++[rk]) (List.replicate (cap2-(b.reads.length+1)) (.agg [.s [],.b false,.agg (List.replicate 32 (.i .u8 0))])))]=[(bT,.var (.arr cap2 79) (.agg ((b.reads.map qI++j).take b.reads.length++AV.agg [.s b.asks,.b false,.agg (List.replicate 32 (.i .u8 0))]::List.replicate (cap2-(b.reads.length+1)) (.agg [.s [],.b false,.agg (List.replicate 32 (.i .u8 0))]))))]:=by rw[htk];simp[kR,hrkE]
    refine jW.ofK [0,1,2,3,4,5,6] [] [] (by kernel_rfl) ?_
    (simp (maxSteps:=2000000) (disch:=first|omega|assumption) [zz,-List.reduceReplicate,nT,nT',c1,c1'])
    (repeat with_reducible refine om ?_)
    refine qE (R:=fun y H'=>y=.av (.int .i64) (.i .i64 0)∧z6 q.R r' H') q.HR ((B,zO q.R b.outs (jA q.bo q.bi q.ba) q.W (.msl bT 79 0 (b.reads.length+1) cap2) b.asks b.over b.why)::([(bT,kR cap2 (b.reads++[rk]) (List.replicate (cap2-(b.reads.length+1)) (.agg [.s [],.b false,.agg (List.replicate 32 (.i .u8 0))])))]++((T,.var (.arr cap 79) (.agg (b.reads.map qI++j)))::N))) ?_ rfl (by simp[qQ]) (by simp) ?_ ?_
    ·rw[hrow]
     refine List.perm_iff_count.2 fun a=>?_
     simp only[zO,ho',List.count_append,List.count_cons,List.count_nil];omega
    ·rw[hHe]
     have hkf:k=⟨b.asks,k.is,k.data⟩:=by rw[←hp]
     rw[hki]at hkf
     rw[hkf]at hgiv
     simpa[TV.er,AV.er,AV.ers,zH]using hgiv
    rintro y HR' ⟨rfl,hrun'⟩ _
    obtain⟨H2,hH2,hperm⟩:=fin (.msl bT 79 0 (b.reads.length+1) cap2) ([(bT,kR cap2 (b.reads++[rk]) (List.replicate (cap2-(b.reads.length+1)) (.agg [.s [],.b false,.agg (List.replicate 32 (.i .u8 0))])))]) HR' (by exact .inr ⟨bT,cap2,_,JK.rep rfl _,by simp,by simp;omega,rfl⟩) hrun'
    have hH2e:H2.er=H2:=by
     obtain⟨q2,hq2,rfl⟩:=hH2
     exact(hq2.er B).1
    have hgo2:=WP B hH2 hgg n hgn
    refine⟨H2,⟨(T,.var (.arr cap 79) (.agg (b.reads.map qI++j)))::H2,?_,(List.Sublist.refl _).cons _⟩,?_⟩
    ·refine List.Perm.trans ?_ (hperm.cons _)
     refine List.perm_iff_count.2 fun a=>?_
     simp only[List.count_append,List.count_cons,List.count_nil];omega
    simp (disch:=omega) [zz]
    refine qE (R:=fun y H'=>y=.tup []∧jJ B (yQ b1) H') H2 [] (by simp) rfl (by simp[qQ]) (by simp) ?_ ?_
    ·rw[hH2e]
     simpa[TV.er,AV.er]using hgo2
    rintro y H' ⟨rfl,hfin⟩ _
    refine⟨H',by simpa using HSub.refl _,?_⟩
    have hfe:H'.er=H':=by
     obtain⟨q2,hq2,rfl⟩:=hfin
     exact(hq2.er B).1
    simp (disch:=omega) [zz,hfe,Tryz.f18]
    exact⟨H',HSub.refl _,hfin⟩
end Go.Proofs.YtooipdkilgpojaaGreatDoor
end
section
set_option maxRecDepth 100000
namespace Go.Proofs.YtooipdkilgpojaaGreatDoor
open Go Go.Ab
open Classical
variable [Sel] [SelPow] [SelMax]
@[simp] theorem zAx:qZ Tryz.prog 11=true:=by kernel_rfl
@[simp] theorem zBn:z8 Tryz.prog (.func 11)=false:=q9 zAx
@[simp] theorem zpt:qZ Tryz.prog 6=true:=by kernel_rfl
@[simp] theorem zsO:z8 Tryz.prog (.func 6)=false:=q9 zpt
@[simp] theorem zpx:qZ Tryz.prog 3=true:=by kernel_rfl
@[simp] theorem zsY:z8 Tryz.prog (.func 3)=false:=q9 zpx
@[simp] theorem zps:qZ Tryz.prog 4=true:=by kernel_rfl
@[simp] theorem zt8:z8 Tryz.prog (.func 4)=false:=q9 zps
@[simp] theorem zwR:qZ Tryz.prog 74=true:=by kernel_rfl
@[simp] theorem zxl:z8 Tryz.prog (.func 74)=false:=q9 zwR
@[simp] theorem zEu:qZ Tryz.prog 40=true:=by kernel_rfl
@[simp] theorem zEK:z8 Tryz.prog (.func 40)=false:=q9 zEu
structure Z4 (env:List (Txt × Txt)) (cs:List CmdV) (outs:List Txt) (may:Txt→Bool) (kn:List KnV) (b:zGo):Prop where
 g:ZJ b
 s:∃wr,WY env (C9 cs) kn outs may wr b
section
variable {env:List (Txt × Txt)} {cs:List CmdV} {outs:List Txt} {may:Txt→Bool} {kn:List KnV} {b:zGo}
theorem Z4.rl (h:Z4 env cs outs may kn b):b.reads.length≤500:=by
 obtain⟨wr,hs⟩:=h.s
 rw[hs.reads,List.length_map];exact hs.len
theorem Z4.wl (h:Z4 env cs outs may kn b) (ho:outs.length≤1000000):b.wrote.length≤1000000:=by
 obtain⟨wr,hs⟩:=h.s
 have h1:(wr.map (·.path)).length≤outs.length:=List.Nodup.length_le_of_subset hs.nod fun p hp=>by
  obtain⟨w,hw,rfl⟩:=List.mem_map.1 hp
  exact hs.own w hw
 rw[hs.wrote,List.length_map]
 simp only[List.length_map]at h1
 omega
theorem Z4.can (h:Z4 env cs outs may kn b) (k:KnV) (ho:b.over=false) (hp:k.path=b.asks) (hd:k.is=true→k.data.length≤65536):zg6 k b:=by
 obtain⟨wr,hs⟩:=h.s
 obtain⟨h1,h2⟩:=hs.tell ho k hp hd
 exact⟨h2,⟨h.g.good.give k (fun h=>by have:=hd h;omega),h.g.ask.give h.g.good.inv k,h1.at_.ov,h1.no2⟩,⟨_,(V7 h1).1⟩⟩
theorem Z4.give (h:Z4 env cs outs may kn b) (k:KnV) (ho:b.over=false) (hp:k.path=b.asks) (hd:k.is=true→k.data.length≤65536):(kB k b).1=0∧Z4 env cs outs may (kn++[k]) (kB k b).2:=by
 have hc:=h.can k ho hp hd
 obtain⟨wr,hs⟩:=h.s
 obtain⟨h1,m,h2⟩:=hs.give ho k hp hd
 refine⟨h1,?_,_,h2⟩
 have hv:(kB k b).2=yQ (c9 k b):=by unfold kB;rw[if_neg (by rw[ho];decide),if_neg (by simp[hp]),if_neg (fun h=>by have:=hd h.1;omega)];rfl
 obtain⟨n,hn⟩:=hc.go
 rw[hv]
 exact ZJ.goN n hn hc.good
end
theorem zbj {t:Txt} {cs:List CmdV} (h:j7 t=.ok cs) {env:List (Txt × Txt)} (h1:env.length≤1000000000) (h2:∀x∈env,x.2.length≤1000000000000000) (outs:List Txt) (may:Txt→Bool):Z4 env cs outs may [] (ZR env outs may cs):=by
 have hl:=y8 h
 have hgo:=(V7 (zeZ env outs may cs hl)).1
 exact⟨ZJ.goN _ hgo (za8 h h1 h2 outs may),zec env outs may cs hl⟩
theorem KN {b:zGo} (h:b.over=false):yD b=(⟨0,0,[],[]⟩,false):=by unfold yD;rw[if_pos h]
theorem uJ {b:zGo} (h:b.over=true):(yD b).2=true:=by
 unfold yD
 rw[if_neg (by rw[h];decide)]
 split<;>rfl
theorem zfu {l:List KnV} {p:Txt} {j:Nat} (hj:j<l.length) (hno:∀i (h:i<l.length),i<j→l[i].path≠p) (h:l[j].path=p):zQ l p=some l[j]:=by
 unfold zQ
 rw[List.find?_eq_some_iff_getElem]
 refine⟨by simpa using h,j,hj,rfl,fun i hi=>?_⟩
 simpa using hno i (by omega) hi
theorem zeq {l:List KnV} {p:Txt} (hno:∀i (h:i<l.length),l[i].path≠p):zQ l p=none:=by
 unfold zQ
 rw[List.find?_eq_none]
 intro x hx
 obtain⟨i,hi,rfl⟩:=List.getElem_of_mem hx
 simpa using hno i hi
noncomputable def yS (b:zGo):TV:=.tup [(.str,.s (if b.over=true then [] else b.asks)),(.bool,.b (!b.over)),(qD Tryz.prog 41,zI (yD b).1),(.bool,.b true)]
set_option maxHeartbeats 32000000 in
theorem ZZ (B:Nat) {env:List (Txt × Txt)} {cs:List CmdV} {outs:List Txt} {may:Txt→Bool} {kn:List KnV} {b b':zGo} {H:q8} (hH:jJ B b H) (hk:Z4 env cs outs may kn b) (ho:outs.length≤1000000) (known:List KnV) (hkd:∀k∈known,k.data.length≤65536) (hkl:known.length≤1000000000) (hgo:goL known 600 b=some b') :
  q7 Tryz.prog 11 [.av .ptr (.ptr B KD []),.av (.slice 57) (zL known)] H fun y H'=>y=yS b'∧jJ B b' H'∧∃kn',Z4 env cs outs may kn' b':=by
 have hzo:AV.agg [.i .i64 0,.i .i64 0,.sl .full [],.sl .full []]=AV.agg [.i .i64 0,.i .i64 0,.sl .full [],.sl .full []]:=rfl
 refine zov Tryz.func11 cf0 fun imm0 w0=>?_
 simp (disch:=omega) [zz,-List.reduceReplicate]
 refine AT.loop' (α:=Nat × zGo × List KnV × q8) (fun x=>St.of [(0,.av .ptr (.ptr B KD [])),(1,.av (.slice 57) (zL known)),(6,.loc 6 []),(15,.av (.int .i64) (.i .i64 x.1))] [(6,(qD Tryz.prog 41,.agg [.i .i64 0,.i .i64 0,.sl .full [],.sl .full []]))] (fun _=>0) x.2.2.2)
  (fun x=>x.1≤600∧goL known (600-x.1) x.2.1=some b'∧Z4 env cs outs may x.2.2.1 x.2.1∧jJ B x.2.1 x.2.2.2) (fun x=>600-x.1) (0,b,kn,H) ?_ ?_ ?_
 ·apply Le.of<;>simp[qU,qG,zX]<;>try omega
 ·exact⟨by omega,hgo,hk,hH⟩
 clear hgo hk hH kn b
 rintro⟨i,b,kn,H⟩ ⟨hi,hgo,hk,hH⟩ KL hN hE
 simp only at hi hgo hk hH hN
 have hi6:i<600:=by
  rcases Nat.lt_or_ge i 600 with h|h
  ·exact h
  ·rw[show 600-i=0 by omega]at hgo;cases hgo
 obtain⟨n,hn⟩:∃n,600-i=n+1:=⟨600-i-1,by omega⟩
 rw[hn,goL]at hgo
 have hi':(i:Int)<600:=by omega
 have hHe:=hH.er
 refine qM (cf:=cf0) laid mixed _ _ _ (by kernel_rfl) ?_
 simp (disch:=omega) [zz,-List.reduceReplicate,hi']
 refine qE (R:=fun y H'=>y=.tup [(.str,.s (if b.over=true then [] else b.asks)),(.bool,.b (!b.over))]∧jJ B b H') H [] (by simp) rfl (by simp[qQ]) (by simp) ?_ ?_
 ·rw[hHe];simpa[TV.er,AV.er]using zci B hH
 rintro y H1 ⟨rfl,hH1⟩ _
 clear hH hHe
 have hHe1:=hH1.er
 refine⟨H1,by simpa using HSub.refl _,?_⟩
 simp (disch:=omega) [zz,-List.reduceReplicate]
 refine qE (R:=fun y H'=>y=.tup [(qD Tryz.prog 41,zI (yD b).1),(.bool,.b (yD b).2)]∧jJ B b H') H1 [] (by simp) rfl (by simp[qQ]) (by simp) ?_ ?_
 ·rw[hHe1];simpa[TV.er,AV.er]using QN B hH1 (by have:=hk.rl;omega) (hk.wl ho)
 rintro y H2 ⟨rfl,hH2⟩ _
 clear hH1 hHe1
 have hHe2:=hH2.er
 refine⟨H2,by simpa using HSub.refl _,?_⟩
 by_cases hov:b.over=true
 ·rw[if_pos hov]at hgo
  have hb:=Option.some.inj hgo
  subst hb
  have h2:=uJ hov
  have hers:(zI (yD b).1).er=zI (yD b).1:=KO _
  simp (disch:=omega) [zz,-List.reduceReplicate,hov,h2]
  (repeat with_reducible refine om ?_)
  refine hE _ _ (by simp) ?_
  simp (disch:=omega) [zz,-List.reduceReplicate,hHe2,yS,hov,hers,Tryz.f11]
  exact⟨hH2,kn,hk⟩
 ·rw[if_neg hov]at hgo
  have hov':b.over=false:=by simpa using hov
  have hw:=KN hov'
  simp (disch:=omega) [zz,-List.reduceReplicate,hov',hw]
    -- what is known is gone through
  have head:∀(j:Nat) (giv:Bool) (H3:q8),True:=fun _ _ _=>trivial
  refine AT.loop' (α:=Nat × Bool × zGo × List KnV × q8) (fun x=>St.of [(0,.av .ptr (.ptr B KD [])),(1,.av (.slice 57) (zL known)),(6,.loc 6 []),(8,.av .str (.s b.asks)),(10,.loc 10 []),(12,.av .bool (.b x.2.1)),(15,.av (.int .i64) (.i .i64 i)),(34,.av (.slice 57) (zL known)),(35,.av (.int .i64) (.i .i64 known.length)),(36,.av (.int .i64) (.i .i64 x.1))]
    [(6,(qD Tryz.prog 41,.agg [.i .i64 0,.i .i64 0,.sl .full [],.sl .full []])),(10,(qD Tryz.prog 41,zI ⟨0,0,[],[]⟩))] (fun _=>0) x.2.2.2.2)
   (fun x=>x.1≤known.length∧Z4 env cs outs may x.2.2.2.1 x.2.2.1∧jJ B x.2.2.1 x.2.2.2.2∧((x.2.1=false∧x.2.2.1=b∧∀i (h:i<known.length),i<x.1→known[i].path≠b.asks)∨(x.2.1=true∧∃k,zQ known b.asks=some k∧x.2.2.1=(kB k b).2)))
   (fun x=>known.length-x.1) (0,false,b,kn,H2) ?_ ?_ ?_
  ·apply Le.of<;>simp[qU,qG,zL]<;>try omega
  ·exact⟨by omega,hk,hH2,.inl ⟨rfl,rfl,fun i h hi=>by omega⟩⟩
  clear hH2 hHe2 hk
  rintro⟨j,giv,b2,kn2,H3⟩ ⟨hj,hk2,hH3,hcase⟩ KL2 hN2 hE2
  simp only at hj hk2 hH3 hcase hN2
  have hHe3:=hH3.er
  refine qM (cf:=cf0) laid mixed _ _ _ (by kernel_rfl) ?_
  by_cases hjl:j<known.length
  ·have hjl':(j:Int)<known.length:=by omega
   have hg:=pZ known j hjl
   rcases hcase with⟨rfl,rfl,hno⟩|⟨rfl,k,hf,hb2⟩
   ·by_cases hc:known[j].path=b2.asks
    ·have hfk:=zfu hjl (fun i h hij=>hno i h hij) hc
     have hkd1:=hkd _ (List.getElem_mem hjl)
     obtain⟨hgv,hk3⟩:=hk2.give known[j] hov' hc (fun _=>hkd1)
     have hbg:=dW B hH3 hk2.g known[j] (by omega) (by have:=hk2.rl;omega) (fun h1 h2 h3=>hk2.can known[j] h1 h2 (fun _=>hkd1))
     rw[hgv]at hbg
     simp (disch:=omega) [zz,-List.reduceReplicate,hjl',hg,hc,zL,zH]
     refine qE (R:=fun y H'=>y=.av (.int .i64) (.i .i64 0)∧jJ B (kB known[j] b2).2 H') H3 [] (by simp) rfl (by simp[qQ]) (by simp) ?_ ?_
     ·rw[hHe3]
      have hke:zH known[j]=.agg [.s b2.asks,.b known[j].is,.s known[j].data]:=by rw[←hc];rfl
      rw[hke]at hbg
      simpa[TV.er,AV.er,AV.ers]using hbg
     rintro y H4 ⟨rfl,hH4⟩ _
     refine⟨H4,by simpa using HSub.refl _,?_⟩
     simp (disch:=omega) [zz,-List.reduceReplicate]
     refine hN2 _ (j+1,true,(kB known[j] b2).2,kn2++[known[j]],H4) ?_ ⟨by simp only;omega,hk3,hH4,.inr ⟨rfl,known[j],hfk,rfl⟩⟩ (by simp only;omega)
     apply Le.of<;>simp[qU,qG,zL]<;>try omega
    ·simp (disch:=omega) [zz,-List.reduceReplicate,hjl',hg,hc,zL,zH]
     refine hN2 _ (j+1,false,b2,kn2,H3) ?_ ⟨by simp only;omega,hk2,hH3,.inl ⟨rfl,rfl,fun i h hi=>?_⟩⟩ (by simp only;omega)
     ·apply Le.of<;>simp[qU,qG,zL]<;>try omega
     ·rcases Nat.lt_or_ge i j with h1|h1
      ·exact hno i h h1
      ·have:i=j:=by omega
       subst this;exact hc
   ·simp (disch:=omega) [zz,-List.reduceReplicate,hjl',hg,zL,zH]
    refine hN2 _ (j+1,true,b2,kn2,H3) ?_ ⟨by simp only;omega,hk2,hH3,.inr ⟨rfl,k,hf,hb2⟩⟩ (by simp only;omega)
    apply Le.of<;>simp[qU,qG,zL]<;>try omega
  ·have hjn:j=known.length:=by omega
   subst hjn
   have hjl':¬(known.length:Int)<known.length:=by omega
   rcases hcase with⟨rfl,rfl,hno⟩|⟨rfl,k,hf,hb2⟩
   ·have hfn:=zeq fun i h=>hno i h h
    rw[hfn]at hgo
    have hb:=Option.some.inj hgo
    subst hb
    simp (disch:=omega) [zz,-List.reduceReplicate,hjl']
    refine hE2 _ _ (by simp) ?_
    simp (disch:=omega) [zz,-List.reduceReplicate]
    (repeat with_reducible refine om ?_)
    refine hE _ _ (by simp) ?_
    simp (disch:=omega) [zz,-List.reduceReplicate,hHe3,yS,hov',hw,Tryz.f11]
    exact⟨hH3,kn2,hk2⟩
   ·rw[hf]at hgo
    simp (disch:=omega) [zz,-List.reduceReplicate,hjl']
    refine hE2 _ _ (by simp) ?_
    simp (disch:=omega) [zz,-List.reduceReplicate]
    refine hN _ (i+1,b2,kn2,H3) ?_ ⟨by simp only;omega,by rw[hb2,show 600-(i+1)=n by omega];exact hgo,hk2,hH3⟩ (by simp only;omega)
    apply Le.of<;>simp[qU,qG,zX]<;>try omega
end Go.Proofs.YtooipdkilgpojaaGreatDoor
end
section
set_option maxRecDepth 100000
namespace Go.Proofs.YtooipdkilgpojaaGreatDoor
open Go Go.Ab
open Classical
variable [Sel] [SelPow] [SelMax]
def ZT:Txt:=[114,101,97,100,32,97,10,119,114,105,116,101,32,111,117,116,47,111,10]
def QG:Txt:=[111,117,116,47,111]
def zmu:Txt:=[114,101,97,100,32,97]
def znw:Txt:=[119,114,105,116,101,32,111,117,116,47,111]
def alAct:xW:=⟨[],[],ZT,[],[],[[42]],[QG]⟩
def alK:KnV:=⟨[97],true,[120]⟩
theorem PU:z7 ZT=[zmu,znw]:=by decide
theorem ziW:zR zmu=[zZ,[97]]:=by decide
theorem znd:zR znw=[j8,QG]:=by decide
theorem zis:DV ZT=(0,0):=by
 unfold DV
 rw[PU]
 rw[if_neg (by decide)]
 have h1:vH [zZ,[97]]=true:=by decide
 have h2:vH [j8,QG]=true:=by decide
 simp[zbZ,ziW,znd,h1,h2]
theorem zpF:∃cs,j7 ZT=.ok cs:=by
 rcases ze5 ZT with⟨cs,h,_⟩|⟨e,n,_,h,h0⟩
 ·exact⟨cs,h⟩
 ·rw[zis]at h
  exact absurd (congrArg Prod.fst h).symm h0
theorem zkA:(Y9 [] [] (z7 ZT) st0).stop=⟨1,[97],[],0⟩∧(Y9 [] [] (z7 ZT) st0).wrote=[]:=by
 have hp:U4 [zZ,[97]]=false:=by decide
 have hs:xT [] [] zmu [zZ,[97]] st0={ (st0:StV)with asked:=[[97]],stop:=⟨1,[97],[],0⟩ }:=by
  simp[xT,y7,st0,do0,zQ]
 rw[PU]
 simp only[Y9,ziW,hp,hs]
 simp[st0]
theorem zku:(Y9 [] [alK] (z7 ZT) st0).stop=⟨3,[],[],0⟩∧(Y9 [] [alK] (z7 ZT) st0).wrote=[⟨2,QG,[120],0⟩]:=by
 have hp:U4 [zZ,[97]]=false:=by decide
 have hp2:U4 [j8,QG]=false:=by decide
 have hs:xT [] [alK] zmu [zZ,[97]] st0={ (st0:StV)with asked:=[[97]],buf:=[120] }:=by
  simp[xT,y7,st0,do0,zQ,alK,yP]
 have e1:¬(j8=zZ∨j8=w8):=by decide
 have e2:¬j8=jT:=by decide
 have e3:¬j8=tText:=by decide
 have e4:¬j8=yO:=by decide
 have e5:¬j8=yR:=by decide
 have e6:¬j8=kG:=by decide
 have e7:¬j8=wQ:=by decide
 have hs2:xT [] [alK] znw [j8,QG] { (st0:StV)with asked:=[[97]],buf:=[120] }={ (st0:StV)with asked:=[[97]],buf:=[],wrote:=[⟨2,QG,[120],0⟩] }:=by
  simp only[xT,List.getD_cons_zero,e1,e2,e3,e4,e5,e6,e7,if_false,if_true]
  simp[st0]
 rw[PU]
 simp only[Y9,ziW,znd,hp,hp2,hs,hs2]
 simp[st0,do0]
theorem znL:jI alAct [97]=true:=by
 have h1:wL [42] [97]=true:=by decide
 simp[jI,pJ,alAct,QG,h1]
structure zpd (cs:List CmdV) (b b':zGo):Prop where
 k0:Z4 [] cs [QG] (jI alAct) [] b
 k1:Z4 [] cs [QG] (jI alAct) [alK] b'
 give:kB alK b=(0,b')
 asks:b.asks=[97]
 open_:b.over=false
 out:yD b'=(⟨1,0,[⟨QG,[120]⟩],[⟨[97],true,sha [120]⟩]⟩,true)
theorem zms:∃cs,j7 ZT=.ok cs∧∃b',zpd cs (ZR [] [QG] (jI alAct) cs) b':=by
 obtain⟨cs,hcs⟩:=zpF
 refine⟨cs,hcs,?_⟩
 have h0:=zbj hcs (env:=[]) (by simp) (by simp) [QG] (jI alAct)
 obtain⟨b,hb⟩:∃b,b=ZR [] [QG] (jI alAct) cs:=⟨_,rfl⟩
 rw[←hb]at h0 ⊢
 obtain⟨_,i,hi⟩:=XU hcs
 have hfl:zh5 [] cs (z7 ZT):=⟨⟨i,hi⟩⟩
 obtain⟨f1,f2⟩:=zkA
 obtain⟨g1,g2⟩:=zku
 obtain⟨wr,hs⟩:=h0.s
 have hw:b.asks=[97]∧b.over=false:=by
  cases (hs.far hfl).1 with
  | waits h1 h2 h3 h4 h5 h6=>rw[f1]at h3;exact⟨h3,h4⟩
  | read h1 h2=>rw[f1]at h2;rw[znL]at h2;cases h2
  | ended h1=>rw[f1]at h1;cases h1
  | short h1=>rw[f1]at h1;cases h1
  | failed h1=>rw[f1]at h1;cases h1
  | wrote wr d h1=>rw[f2]at h1;simp at h1
 obtain⟨hg,hk1⟩:=h0.give alK hw.2 hw.1.symm (by decide)
 refine⟨(kB alK b).2,h0,hk1,by rw[←hg],hw.1,hw.2,?_⟩
 obtain⟨b',hb'⟩:∃b',b'=(kB alK b).2:=⟨_,rfl⟩
 rw[←hb']at hk1 ⊢
 obtain⟨wr',hs'⟩:=hk1.s
 have hr:=hs'.reads
 have hf:=(hs'.far hfl).1
 simp only[List.nil_append]at hf hr
 have hin:∀p∈[QG],p∈([⟨2,QG,[120],0⟩]:List DoV).map (·.path):=by simp
 have h2:b'.over=true∧b'.why=0∧b'.wrote=[(QG,[120])]:=by
  cases hf with
  | waits h1=>rw[g1]at h1;cases h1
  | read h1=>rw[g1]at h1;cases h1
  | ended h1 h2 h3 h4 h5=>rw[g2]at h5;exact⟨h3,h4,h5⟩
  | short h1 h2=>rw[g2]at h2;exact absurd hin h2
  | failed h1=>rw[g1]at h1;cases h1
  | wrote wr d h1 h2 =>
   rw[g2]at h1
   have hl:=h1.length_le
   simp only[List.length_append,List.length_cons,List.length_nil]at hl
   obtain rfl:wr=[]:=List.length_eq_zero_iff.1 (by omega)
   simp only[List.nil_append]at h1
   have hd:d=⟨2,QG,[120],0⟩:=by
    obtain⟨m,hm⟩:=h1
    simp only[List.cons_append,List.nil_append,List.cons.injEq]at hm
    exact hm.1
   subst hd
   rcases h2 with h2|h2<;>simp at h2
 unfold yD
 rw[if_neg (by rw[h2.1];decide),if_pos h2.2.1]
 have ho:ZH b'=[⟨QG,[120]⟩]:=by
  unfold ZH
  rw[h2.2.2]
  simp[kK]
 rw[ho,hr]
 rfl
theorem zlL:zky alAct:=by
 refine⟨by decide,by decide,by simp[alAct],by decide,by decide,?_,by decide⟩
 intro x hx
 simp[alAct]at hx
 subst hx
 decide
set_option maxHeartbeats 16000000 in
theorem VZ:PC Tryz.prog 6 [] (.av .bool (.b true)):=by
 obtain⟨cs,hcs,b',hal⟩:=zms
 have hnew:=DZ alAct zlL
 unfold zes at hnew
 rw[show alAct.tool=ZT from rfl,hcs]at hnew
 simp only at hnew
 have hte:ZT=[114,101,97,100,32,97,10,119,114,105,116,101,32,111,117,116,47,111,10]:=rfl
 have hae:kT alAct=.agg [.agg [.s [],.s []],.s ZT,.sl .no [],.sl .no [],.sl .no [.s [42]],.sl .no [.s [111,117,116,47,111]]]:=rfl
 refine zow Tryz.func6 cf0 fun imm0 w0=>?_
 simp (disch:=omega) [zz]
 refine jP (R:=fun r H'=>∃B,r=.tup [(.ptr,.ptr B KD []),(.int .i64,.i .i64 0)]∧jJ B (ZR alAct.env alAct.outs (jI alAct) cs) H') rfl (by simp[qQ]) (by simp) ?_ ?_
 ·rw[hae,hte]at hnew
  simpa[TV.er,AV.er,AV.ers,q8.er_nil]using hnew
 rintro r H ⟨B,rfl,hH⟩
 have hbe:ZR alAct.env alAct.outs (jI alAct) cs=ZR [] [QG] (jI alAct) cs:=rfl
 rw[hbe]at hH
 obtain⟨b,hb⟩:∃b,b=ZR [] [QG] (jI alAct) cs:=⟨_,rfl⟩
 rw[←hb]at hH hal
 obtain⟨k0,k1,hg,ha,ho,hout⟩:=hal
 have hHe:=hH.er
 simp (disch:=omega) [zz]
 refine qE (R:=fun y H'=>y=.tup [(.str,.s [97]),(.bool,.b true)]∧jJ B b H') H [] (by simp) rfl (by simp[qQ]) (by simp) ?_ ?_
 ·rw[hHe]
  have:=zci B hH
  rw[ho,ha]at this
  simpa[TV.er,AV.er]using this
 rintro y H1 ⟨rfl,hH1⟩ _
 refine⟨H1,by simpa using HSub.refl _,?_⟩
 have hHe1:=hH1.er
 simp (disch:=omega) [zz]
 refine qE (R:=fun y H'=>y=.av (.int .i64) (.i .i64 0)∧jJ B b' H') H1 [] (by simp) rfl (by simp[qQ]) (by simp) ?_ ?_
 ·rw[hHe1]
  have:=dW B hH1 k0.g alK (by decide) (by have:=k0.rl;omega) (fun h1 h2 h3=>k0.can alK h1 h2 (by decide))
  rw[hg]at this
  simpa[TV.er,AV.er,AV.ers,zH,alK]using this
 rintro y H2 ⟨rfl,hH2⟩ _
 refine⟨H2,by simpa using HSub.refl _,?_⟩
 have hHe2:=hH2.er
 simp (disch:=omega) [zz]
 refine qE (R:=fun y H'=>y=.tup [(qD Tryz.prog 41,zI ⟨1,0,[⟨QG,[120]⟩],[⟨[97],true,sha [120]⟩]⟩),(.bool,.b true)]∧jJ B b' H') H2 [] (by simp) rfl (by simp[qQ]) (by simp) ?_ ?_
 ·rw[hHe2]
  have:=QN B hH2 (by have:=k1.rl;omega) (k1.wl (by decide))
  rw[hout]at this
  simpa[TV.er,AV.er]using this
 rintro y H3 ⟨rfl,hH3⟩ _
 refine⟨H3,by simpa using HSub.refl _,?_⟩
 simp (disch:=omega) [zz,zI,zU,qF,jZ,QG,Tryz.f6]
def J8:List (List Txt)→Nat
 | []=>0
 | x::l=>txW x+J8 l
theorem gC:∀a b:List (List Txt),J8 (a++b)=J8 a+J8 b
 | [],b=>by simp[J8]
 | x::a,b=>by simp only[List.cons_append,J8,gC a b];omega
theorem zeL (l:List (List Txt)) (k:Nat):J8 (l.take k)≤J8 l:=by
 conv=>rhs;rw[←List.take_append_drop k l,gC]
 omega
theorem zf7 (l:List (List Txt)) (k:Nat) (h:k<l.length):J8 (l.take (k+1))=J8 (l.take k)+txW l[k]:=by
 rw[List.take_succ_eq_append_getElem h,gC];simp only[J8];omega
def UY (l:List Txt):AV:=.sl .no (strs l)
theorem zm7 (l:List (List Txt)) (k:Nat) (h:k<l.length):(l.map UY)[k]?=some (UY l[k]):=KB UY l k h
set_option maxHeartbeats 8000000 in
theorem d8 (a:xW) (hl:vA a≤1000000000):PC Tryz.prog 7 [.av UI (kT a)] (.av .bool (.b (decide (2000<vA a)))):=by
 obtain⟨pkg,name,tool,env,ins,asks,outs⟩:=a
 obtain⟨rows,hrows⟩:∃rows,rows=[ins,asks,outs]:=⟨_,rfl⟩
 have hrl:rows.length=3:=by rw[hrows];rfl
 have hW:vA ⟨pkg,name,tool,env,ins,asks,outs⟩=tool.length+J8 rows+enW env:=by
  rw[hrows];simp only[vA,J8];omega
 have hel:=pU env
 rw[hW]at hl ⊢
 have hrm:AV.sl Tok.no (rows.map UY)=.sl .no [.sl .no (strs ins),.sl .no (strs asks),.sl .no (strs outs)]:=by rw[hrows];rfl
 obtain⟨A,hA⟩:∃A,A=kT ⟨pkg,name,tool,env,ins,asks,outs⟩:=⟨_,rfl⟩
 have hA':A=.agg [.agg [.s pkg,.s name],.s tool,.sl .no (env.map Z7),.sl .no (strs ins),.sl .no (strs asks),.sl .no (strs outs)]:=by rw[hA];rfl
 refine zow Tryz.func7 cf0 fun imm0 w0=>?_
 simp (disch:=omega) [zz,kT,zS]
 refine AT.loop' (α:=Nat) (fun k=>St.of [(1,.loc 1 []),(19,.av (.slice 25) (.sl .no (rows.map UY))),(20,.av (.int .i64) (.i .i64 3)),(21,.av (.int .i64) (.i .i64 k)),(3,.av (.int .i64) (.i .i64 (tool.length+J8 (rows.take k):Nat)))] [(1,(UI,A))] (fun _=>0) [])
  (fun k=>k≤3) (fun k=>3-k) 0 ?_ ?_ ?_
 ·apply Le.of<;>simp[qU,qG,J8,hA',hrm]<;>try omega
 ·omega
 rintro k hk KL hN hE
 refine qM (cf:=cf0) laid mixed _ _ _ (by kernel_rfl) ?_
 by_cases hlt:k<3
 ·have hlt':(k:Int)<3:=by omega
  have hkr:k<rows.length:=by omega
  have hg:=zm7 rows k hkr
  have hst:=zf7 rows k hkr
  have hle:=zeL rows (k+1)
  obtain⟨row,hrow⟩:∃row,row=rows[k]:=⟨_,rfl⟩
  rw[←hrow]at hst hg
  obtain⟨n0,hn0⟩:∃n0,n0=tool.length+J8 (rows.take k):=⟨_,rfl⟩
  have hn1:tool.length+J8 (rows.take (k+1))=n0+txW row:=by omega
  rw[←hn0]
  have hrl2:=WB row
  simp (disch:=omega) [zz,hlt',hg,hrl,UY]
  refine AT.loop' (α:=Nat) (fun j=>St.of [(1,.loc 1 []),(19,.av (.slice 25) (.sl .no (rows.map UY))),(20,.av (.int .i64) (.i .i64 3)),(21,.av (.int .i64) (.i .i64 k)),(25,.av (.slice 9) (.sl .no (strs row))),(26,.av (.int .i64) (.i .i64 row.length)),(27,.av (.int .i64) (.i .i64 j)),(3,.av (.int .i64) (.i .i64 (n0+txW (row.take j):Nat)))] [(1,(UI,A))] (fun _=>0) [])
   (fun j=>j≤row.length) (fun j=>row.length-j) 0 ?_ ?_ ?_
  ·apply Le.of<;>simp[qU,qG,txW,qX]<;>try omega
  ·omega
  rintro j hj KL2 hN2 hE2
  refine qM (cf:=cf0) laid mixed _ _ _ (by kernel_rfl) ?_
  by_cases hjl:j<row.length
  ·have hjl':(j:Int)<row.length:=by omega
   have hgj:=yH row j hjl
   have hs:=zhM row j hjl
   have ht:=zjA row (j+1)
   obtain⟨m,hm⟩:∃m,m=txW (row.take j):=⟨_,rfl⟩
   rw[←hm]at hs ⊢
   have hs':(txW (row.take (j+1)):Int)=m+(row[j].length+1):=by omega
   simp (disch:=omega) [zz,hjl',hgj,qX]
   refine hN2 _ (j+1) ?_ (by omega) (by omega)
   apply Le.of<;>simp[qU,qG,qX,hs']<;>try omega
  ·have hjn:j=row.length:=by omega
   subst hjn
   have hjl':¬(row.length:Int)<row.length:=by omega
   simp (disch:=omega) [zz,hjl',qX]
   refine hE2 _ _ (by simp) ?_
   simp (disch:=omega) [zz]
   refine hN _ (k+1) ?_ (by omega) (by omega)
   rw[hn1]
   apply Le.of<;>simp[qU,qG,zX]<;>try omega
 ·have hkn:k=3:=by omega
  subst hkn
  have ht3:rows.take 3=rows:=List.take_of_length_le (by omega)
  rw[ht3]
  simp (disch:=omega) [zz]
  refine hE _ _ (by simp) ?_
  simp (disch:=omega) [zz,hA']
  obtain⟨n0,hn0⟩:∃n0,n0=tool.length+J8 rows:=⟨_,rfl⟩
  rw[←hn0]at hl ⊢
  refine AT.loop' (α:=Nat) (fun j=>St.of [(39,.av (.slice 85) (.sl .no (env.map Z7))),(40,.av (.int .i64) (.i .i64 env.length)),(41,.av (.int .i64) (.i .i64 j)),(3,.av (.int .i64) (.i .i64 (n0+enW (env.take j):Nat)))] [] (fun _=>0) [])
   (fun j=>j≤env.length) (fun j=>env.length-j) 0 ?_ ?_ ?_
  ·apply Le.of<;>simp[qU,qG,enW,hn0]<;>try omega
  ·omega
  rintro j hj KL2 hN2 hE2
  refine qM (cf:=cf0) laid mixed _ _ _ (by kernel_rfl) ?_
  by_cases hjl:j<env.length
  ·have hjl':(j:Int)<env.length:=by omega
   have hgj:=KB Z7 env j hjl
   have hs:=ziz env j hjl
   have ht:=zjF env (j+1)
   obtain⟨m,hm⟩:∃m,m=enW (env.take j):=⟨_,rfl⟩
   rw[←hm]at hs ⊢
   have hs':(enW (env.take (j+1)):Int)=m+(env[j].1.length+env[j].2.length+1):=by omega
   simp (disch:=omega) [zz,hjl',hgj,Z7]
   refine hN2 _ (j+1) ?_ (by omega) (by omega)
   apply Le.of<;>simp[qU,qG,hs']<;>try omega
  ·have hjn:j=env.length:=by omega
   subst hjn
   have hjl':¬(env.length:Int)<env.length:=by omega
   simp (disch:=omega) [zz,hjl']
   refine hE2 _ _ (by simp) ?_
   by_cases h5:2000<n0+enW env
   ·have h5':(2000:Int)<(n0:Int)+enW env:=by omega
    simp (disch:=omega) [zz,h5,h5',Tryz.f7]
   ·have h5':¬(2000:Int)<(n0:Int)+enW env:=by omega
    simp (disch:=omega) [zz,h5,h5',Tryz.f7]
end Go.Proofs.YtooipdkilgpojaaGreatDoor
end
