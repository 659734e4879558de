/- A box is told. No condition beyond each theorem's own. -/
import Derived.Test.YtooipdkilgpojaaGreatDoorS7ToBX5
import Derived.Test.YtooipdkilgpojaaGreatDoorBR0ToKK1
set_option linter.unusedSimpArgs false
set_option linter.unusedVariables false
set_option linter.unusedSectionVars false
section
set_option maxRecDepth 100000
namespace Go.Proofs.YtooipdkilgpojaaGreatDoor
open Go Go.Ab
open Classical
variable [Sel] [SelPow] [SelMax]
abbrev zeJ:Cfg:=⟨fun _=>false,fun n=>n==1000010||n==2000048||n==2000050||n==1000011||n==2000056⟩
noncomputable def c9 (k:KnV) (b:BoxV):BoxV:={ b with reads:=b.reads++[J9 k],run:=(QB k b.run).2 }
structure zg6 (k:KnV) (b:BoxV):Prop where
 give:(QB k b.run).1=0
 good:ZJ (c9 k b)
 go:∃n,goN n (c9 k b)=some (yQ (c9 k b))
set_option maxHeartbeats 32000000 in
theorem dW (B:Nat) {b:BoxV} {H:q8} (hH:jJ B b H) (hg:ZJ b) (k:KnV) (hkl:k.data.length≤1000000000000000) (hr:b.reads.length≤1000)
  (hgo:b.over=false→k.path=b.asks→¬(k.is=true∧65536<k.data.length)→zg6 k b) :
  q7 Tryz.prog 18 [.av .ptr (.ptr B KD []),.av KnT (zH k)] H fun y H'=>y=.av (.int .i64) (.i .i64 (kB k b).1)∧jJ B (kB k b).2 H':=by
 obtain⟨q,hq,rfl⟩:=hH
 obtain⟨_,hMe0,hHe,hre⟩:=hq.er B
 obtain⟨M,hM,hMe⟩:=J3.split hq B
 by_cases ho:b.over=true
 ·have hv:kB k b=(19,b):=by unfold kB;exact if_pos ho
  rw[hv]
  refine q7.sub (R:=fun y H'=>y=.av (.int .i64) (.i .i64 19)∧∃H2,Ab.HSub H2 H'∧H2=q.core B b) ?_ fun y H' ⟨h1,H2,h2,h3⟩ _=>⟨H2,h2,h1,q,hq,h3⟩
  rw[hM]
  refine q7.of_vc laid mixed Tryz.func18 rfl zeJ (by kernel_rfl) (by simp[Tryz.ntmps18]) fun imm0 w0=>?_
  (simp (maxSteps:=2000000) (disch:=first|omega|assumption) [zz,-List.reduceReplicate,zH,zO,ho])
  (simp (maxSteps:=2000000) (disch:=first|omega|assumption) [zz,-List.reduceReplicate,hMe,hre,jA,Tryz.f18,ho])
  exact HSub.refl _
 have ho':b.over=false:=by simpa using ho
 by_cases hp:k.path=b.asks
 rotate_left
 ·have hv:kB k b=(1,b):=by unfold kB;rw[if_neg ho,if_pos hp]
  rw[hv]
  refine q7.sub (R:=fun y H'=>y=.av (.int .i64) (.i .i64 1)∧∃H2,Ab.HSub H2 H'∧H2=q.core B b) ?_ fun y H' ⟨h1,H2,h2,h3⟩ _=>⟨H2,h2,h1,q,hq,h3⟩
  rw[hM]
  refine q7.of_vc laid mixed Tryz.func18 rfl zeJ (by kernel_rfl) (by simp[Tryz.ntmps18]) fun imm0 w0=>?_
  (simp (maxSteps:=2000000) (disch:=first|omega|assumption) [zz,-List.reduceReplicate,zH,zO,ho'])
  (repeat with_reducible refine om ?_)
  (simp (maxSteps:=2000000) (disch:=first|omega|assumption) [zz,-List.reduceReplicate,hp])
  (simp (maxSteps:=2000000) (disch:=first|omega|assumption) [zz,-List.reduceReplicate,hMe,hre,jA,Tryz.f18,ho'])
  exact HSub.refl _
 by_cases hbig:k.is=true∧65536<k.data.length
 ·have hb':(65536:Int)<k.data.length:=by omega
  have hki:=hbig.1
  have hv:kB k b=(6,b):=by unfold kB;rw[if_neg ho,if_neg (by simp[hp]),if_pos hbig]
  rw[hv]
  refine q7.sub (R:=fun y H'=>y=.av (.int .i64) (.i .i64 6)∧∃H2,Ab.HSub H2 H'∧H2=q.core B b) ?_ fun y H' ⟨h1,H2,h2,h3⟩ _=>⟨H2,h2,h1,q,hq,h3⟩
  rw[hM]
  refine q7.of_vc laid mixed Tryz.func18 rfl zeJ (by kernel_rfl) (by simp[Tryz.ntmps18]) fun imm0 w0=>?_
  (simp (maxSteps:=2000000) (disch:=first|omega|assumption) [zz,-List.reduceReplicate,zH,zO,ho',hp,hki,hb'])
  (repeat with_reducible refine om ?_)
  (simp (maxSteps:=2000000) (disch:=first|omega|assumption) [zz,-List.reduceReplicate,hMe,hre,jA,Tryz.f18,ho'])
  exact HSub.refl _
 have hv:kB k b=(0,yQ (c9 k b)):=by unfold kB;rw[if_neg ho,if_neg (by simp[hp]),if_neg hbig];rfl
 rw[hv]
 obtain⟨hgv,hgg,n,hgn⟩:=hgo ho' hp hbig
 obtain⟨r',hr'⟩:∃r',r'=(QB k b.run).2:=⟨_,rfl⟩
 have hgiv:=zmH q.R hq.run hg.good k (by omega)
 rw[hgv,←hr']at hgiv
 refine q7.nodup fun hnd=>?_
 obtain⟨rk,hrk⟩:∃rk,rk=J9 k:=⟨_,rfl⟩
 obtain⟨b1,hb1⟩:∃b1,b1=c9 k b:=⟨_,rfl⟩
 have hb1':b1={ b with reads:=b.reads++[rk],run:=r' }:=by rw[hb1,hrk,hr'];rfl
 rw[←hb1]at hgg hgn ⊢
 refine q7.sub (R:=fun y H'=>y=.av (.int .i64) (.i .i64 0)∧∃H2,Ab.HSub H2 H'∧jJ B (yQ b1) H2) ?_ fun y H' ⟨h1,H2,h2,h3⟩ _=>⟨H2,h2,h1,h3⟩
 obtain⟨N,hN⟩:∃N:q8,N=(q.W,wrO b.wrote)::(W8 q.bo q.bi q.ba b.outs q.ins q.ask):=⟨_,rfl⟩
 have hNe:N.er=N:=by rw[hN,q8.er_cons,QZ,vQ]
 have hp1:(q.core B b).Perm ((B,zO q.R b.outs (jA q.bo q.bi q.ba) q.W q.rd b.asks b.over b.why)::(q.RD++(q.HR++N))):=by
  refine List.perm_iff_count.2 fun a=>?_
  simp only[J3.core,J3.M,hN,List.count_append,List.count_cons];omega
 have hnd1:(q8.keys ((B,zO q.R b.outs (jA q.bo q.bi q.ba) q.W q.rd b.asks b.over b.why)::(q.RD++(q.HR++N)))).Nodup:=(hp1.map Prod.fst).nodup_iff.1 hnd
  -- how it ends
 have fin:∀(rd':AV) (RD' HR':q8),cM (b.reads++[rk]) rd' RD'→z6 q.R r' HR'→∃H2,jJ B b1 H2∧((B,zO q.R b.outs (jA q.bo q.bi q.ba) q.W rd' b.asks b.over b.why)::(RD'++(HR'++N))).Perm H2:=by
  intro rd' RD' HR' h1 h2
  refine⟨({ q with rd:=rd',RD:=RD',HR:=HR' }:J3).core B b1,⟨{ q with rd:=rd',RD:=RD',HR:=HR' },⟨by rw[hb1'];exact h2,by rw[hb1'];exact h1,by rw[hb1'];exact hq.may,by rw[hb1'];exact hq.mb⟩,rfl⟩,?_⟩
  refine List.perm_iff_count.2 fun a=>?_
  rw[hb1']
  simp only[J3.core,J3.M,hN,List.count_append,List.count_cons];omega
 refine q7.perm hp1 ?_
 clear hnd hp1
 have hsum:=fun(h:k.is=true)=>znJ k.data (Nat.le_trans (Nat.le_of_not_lt fun e=>hbig ⟨h,e⟩) (by decide))
 have hrde:q.rd.er=q.rd:=by
  rcases hq.reads with⟨_,e,_⟩|⟨T,cap,j,_,e,_⟩<;>rw[e]<;>rfl
 have hme:(jA q.bo q.bi q.ba).erk=jA q.bo q.bi q.ba:=rfl
 have hzd:AV.agg (List.replicate 32 (.i .u8 0))=KW zc4:=by simp[KW,zc4]
 cases hki:k.is with
 | true =>
  have hb':¬(65536:Int)<k.data.length:=by
   intro h;exact hbig ⟨hki,by omega⟩
  have hrk2:rk=⟨k.path,true,sha k.data⟩:=by rw[hrk];simp[J9,hki]
  have hrkE:qI rk=AV.agg [.s b.asks,.b true,KW (sha k.data)]:=by rw[hrk2,hp];rfl
  rcases hq.reads with⟨hr0,hrd,hRD⟩|⟨T,cap,j,hj,hrd,hcap,hRD⟩
  ·rw[hRD,hrd]at hnd1 ⊢
   simp[q8.keys]at hnd1
   refine q7.of_vc laid mixed Tryz.func18 rfl zeJ (by kernel_rfl) (by simp[Tryz.ntmps18]) fun imm0 w0=>?_
   (simp (maxSteps:=2000000) (disch:=first|omega|assumption) [zz,-List.reduceReplicate,zH,zO,ho',hp,hki,hb'])
   (repeat with_reducible refine om ?_)
   refine qL (hsum hki) rfl rfl (by simp) (by simp[qS,TV.er,AV.er,AV.ers,zfI]) ?_
   (simp (maxSteps:=2000000) (disch:=first|omega|assumption) [zz,-List.reduceReplicate])
   refine jW.ofK [0,1,2,3,4,5,6,7,8,9,10] [0] [] (by kernel_rfl) ?_
   (simp (maxSteps:=2000000) (disch:=first|omega|assumption) [zz,-List.reduceReplicate])
   (repeat with_reducible refine om ?_)
   intro bT cap' c1 c2 c3 c4
   have c1':¬B=bT:=fun e=>c1 e.symm
   (simp (maxSteps:=2000000) (disch:=first|omega|assumption) [zz,-List.reduceReplicate,c1,c1'])
   (repeat with_reducible refine om ?_)
   have hrow:[(bT,kR cap' (b.reads++[rk]) (List.replicate (cap'-1) (.agg [.s [],.b false,.agg (List.replicate 32 (.i .u8 0))])))]=[(bT,.var (.arr cap' 79) (.agg (AV.agg [.s b.asks,.b true,KW (sha k.data)]::List.replicate (cap'-1) (.agg [.s [],.b false,.agg (List.replicate 32 (.i .u8 0))]))))]:=by rw[hr0];simp[kR,hrkE]
   refine jW.ofK [0,1,2,3,4,5,6] [] [] (by kernel_rfl) ?_
   (simp (maxSteps:=2000000) (disch:=first|omega|assumption) [zz,-List.reduceReplicate,c1,c1'])
   (repeat with_reducible refine om ?_)
   refine qE (R:=fun y H'=>y=.av (.int .i64) (.i .i64 0)∧z6 q.R r' H') q.HR ((B,zO q.R b.outs (jA q.bo q.bi q.ba) q.W (.msl bT 79 0 1 cap') b.asks b.over b.why)::([(bT,kR cap' (b.reads++[rk]) (List.replicate (cap'-1) (.agg [.s [],.b false,.agg (List.replicate 32 (.i .u8 0))])))]++N)) ?_ rfl (by simp[qQ]) (by simp) ?_ ?_
   ·rw[hrow]
    refine List.perm_iff_count.2 fun a=>?_
    simp only[zO,ho',List.count_append,List.count_cons,List.count_nil];omega
   ·rw[hHe]
    have hkf:k=⟨b.asks,k.is,k.data⟩:=by rw[←hp]
    rw[hki]at hkf
    rw[hkf]at hgiv
    simpa[TV.er,AV.er,AV.ers,zH]using hgiv
   rintro y HR' ⟨rfl,hrun'⟩ _
   obtain⟨H2,hH2,hperm⟩:=fin (.msl bT 79 0 1 cap') ([(bT,kR cap' (b.reads++[rk]) (List.replicate (cap'-1) (.agg [.s [],.b false,.agg (List.replicate 32 (.i .u8 0))])))]) HR' (by rw[hr0];exact .inr ⟨bT,cap',_,JK.rep rfl _,rfl,by simp;omega,rfl⟩) hrun'
   have hH2e:H2.er=H2:=by
    obtain⟨q2,hq2,rfl⟩:=hH2
    exact(hq2.er B).1
   have hgo2:=WP B hH2 hgg n hgn
   refine⟨H2,HSub.of_perm ?_,?_⟩
   ·refine List.Perm.trans ?_ hperm
    refine List.perm_iff_count.2 fun a=>?_
    simp only[List.count_append,List.count_cons,List.count_nil];omega
   (simp (maxSteps:=2000000) (disch:=first|omega|assumption) [zz,-List.reduceReplicate])
   refine qE (R:=fun y H'=>y=.tup []∧jJ B (yQ b1) H') H2 [] (by simp) rfl (by simp[qQ]) (by simp) ?_ ?_
   ·rw[hH2e]
    simpa[TV.er,AV.er]using hgo2
   rintro y H' ⟨rfl,hfin⟩ _
   refine⟨H',by simpa using HSub.refl _,?_⟩
   have hfe:H'.er=H':=by
    obtain⟨q2,hq2,rfl⟩:=hfin
    exact(hq2.er B).1
   (simp (maxSteps:=2000000) (disch:=first|omega|assumption) [zz,-List.reduceReplicate,hfe,Tryz.f18])
   exact⟨H',HSub.refl _,hfin⟩
  ·rw[hRD,hrd]at hnd1 ⊢
   simp[q8.keys]at hnd1
   obtain⟨⟨nT,_⟩,_⟩:=hnd1
   have nT':¬T=B:=fun e=>nT e.symm
   have htk:(b.reads.map qI++j).take b.reads.length=b.reads.map qI:=by rw[List.take_append_of_le_length (by simp)];exact List.take_of_length_le (by simp)
   have hdr:(b.reads.map qI++j).drop (b.reads.length+1)=j.tail:=by
    rw[List.drop_append,List.drop_of_length_le (by simp)];simp
   refine q7.of_vc laid mixed Tryz.func18 rfl zeJ (by kernel_rfl) (by simp[Tryz.ntmps18]) fun imm0 w0=>?_
   (simp (maxSteps:=2000000) (disch:=first|omega|assumption) [zz,-List.reduceReplicate,zH,zO,ho',hp,hki,hb'])
   (repeat with_reducible refine om ?_)
   refine qL (hsum hki) rfl rfl (by simp) (by simp[qS,TV.er,AV.er,AV.ers,zfI]) ?_
   (simp (maxSteps:=2000000) (disch:=first|omega|assumption) [zz,-List.reduceReplicate])
   refine jW.ofK [0,1,2,3,4,5,6,7,8,9,10] [0] [] (by kernel_rfl) ?_
   (simp (maxSteps:=2000000) (disch:=first|omega|assumption) [zz,-List.reduceReplicate,nT,nT',kR])
   (repeat with_reducible refine om ?_)
   refine⟨fun hroom=>?_,fun hgrow=>?_⟩
   ·(repeat with_reducible refine om ?_)
    have hrow:[(T,kR cap (b.reads++[rk]) j.tail)]=[(T,.var (.arr cap 79) (.agg ((b.reads.map qI++j).take b.reads.length++AV.agg [.s b.asks,.b true,KW (sha k.data)]::(b.reads.map qI++j).drop (b.reads.length+1))))]:=by rw[htk,hdr];simp[kR,hrkE]
    refine jW.ofK [0,1,2,3,4,5,6] [] [] (by kernel_rfl) ?_
    (simp (maxSteps:=2000000) (disch:=first|omega|assumption) [zz,-List.reduceReplicate,nT,nT'])
    (repeat with_reducible refine om ?_)
    refine qE (R:=fun y H'=>y=.av (.int .i64) (.i .i64 0)∧z6 q.R r' H') q.HR ((B,zO q.R b.outs (jA q.bo q.bi q.ba) q.W (.msl T 79 0 (b.reads.length+1) cap) b.asks b.over b.why)::([(T,kR cap (b.reads++[rk]) j.tail)]++N)) ?_ rfl (by simp[qQ]) (by simp) ?_ ?_
    ·rw[hrow]
     refine List.perm_iff_count.2 fun a=>?_
     simp only[zO,ho',List.count_append,List.count_cons,List.count_nil];omega
    ·rw[hHe]
     have hkf:k=⟨b.asks,k.is,k.data⟩:=by rw[←hp]
     rw[hki]at hkf
     rw[hkf]at hgiv
     simpa[TV.er,AV.er,AV.ers,zH]using hgiv
    rintro y HR' ⟨rfl,hrun'⟩ _
    obtain⟨H2,hH2,hperm⟩:=fin (.msl T 79 0 (b.reads.length+1) cap) ([(T,kR cap (b.reads++[rk]) j.tail)]) HR' (by exact .inr ⟨T,cap,j.tail,hj.tail,by simp,by simp;omega,rfl⟩) hrun'
    have hH2e:H2.er=H2:=by
     obtain⟨q2,hq2,rfl⟩:=hH2
     exact(hq2.er B).1
    have hgo2:=WP B hH2 hgg n hgn
    refine⟨H2,HSub.of_perm ?_,?_⟩
    ·refine List.Perm.trans ?_ hperm
     refine List.perm_iff_count.2 fun a=>?_
     simp only[List.count_append,List.count_cons,List.count_nil];omega
    (simp (maxSteps:=2000000) (disch:=first|omega|assumption) [zz,-List.reduceReplicate])
    refine qE (R:=fun y H'=>y=.tup []∧jJ B (yQ b1) H') H2 [] (by simp) rfl (by simp[qQ]) (by simp) ?_ ?_
    ·rw[hH2e]
     simpa[TV.er,AV.er]using hgo2
    rintro y H' ⟨rfl,hfin⟩ _
    refine⟨H',by simpa using HSub.refl _,?_⟩
    have hfe:H'.er=H':=by
     obtain⟨q2,hq2,rfl⟩:=hfin
     exact(hq2.er B).1
    (simp (maxSteps:=2000000) (disch:=first|omega|assumption) [zz,-List.reduceReplicate,hfe,Tryz.f18])
    exact⟨H',HSub.refl _,hfin⟩
   ·intro bT cap2 c1 c2 c3 c4 c5
    have c1':¬B=bT:=fun e=>c1 e.symm
    (repeat with_reducible refine om ?_)
    (simp (maxSteps:=2000000) (disch:=first|omega|assumption) [zz,-List.reduceReplicate,nT,nT',c1,c1'])
    (repeat with_reducible refine om ?_)
    have hrow:[(bT,kR cap2 (b.reads++[rk]) (List.replicate (cap2-(b.reads.length+1)) (.agg [.s [],.b false,.agg (List.replicate 32 (.i .u8 0))])))]=[(bT,.var (.arr cap2 79) (.agg ((b.reads.map qI++j).take b.reads.length++AV.agg [.s b.asks,.b true,KW (sha k.data)]::List.replicate (cap2-(b.reads.length+1)) (.agg [.s [],.b false,.agg (List.replicate 32 (.i .u8 0))]))))]:=by rw[htk];simp[kR,hrkE]
    refine jW.ofK [0,1,2,3,4,5,6] [] [] (by kernel_rfl) ?_
    (simp (maxSteps:=2000000) (disch:=first|omega|assumption) [zz,-List.reduceReplicate,nT,nT',c1,c1'])
    (repeat with_reducible refine om ?_)
    refine qE (R:=fun y H'=>y=.av (.int .i64) (.i .i64 0)∧z6 q.R r' H') q.HR ((B,zO q.R b.outs (jA q.bo q.bi q.ba) q.W (.msl bT 79 0 (b.reads.length+1) cap2) b.asks b.over b.why)::([(bT,kR cap2 (b.reads++[rk]) (List.replicate (cap2-(b.reads.length+1)) (.agg [.s [],.b false,.agg (List.replicate 32 (.i .u8 0))])))]++((T,.var (.arr cap 79) (.agg (b.reads.map qI++j)))::N))) ?_ rfl (by simp[qQ]) (by simp) ?_ ?_
    ·rw[hrow]
     refine List.perm_iff_count.2 fun a=>?_
     simp only[zO,ho',List.count_append,List.count_cons,List.count_nil];omega
    ·rw[hHe]
     have hkf:k=⟨b.asks,k.is,k.data⟩:=by rw[←hp]
     rw[hki]at hkf
     rw[hkf]at hgiv
     simpa[TV.er,AV.er,AV.ers,zH]using hgiv
    rintro y HR' ⟨rfl,hrun'⟩ _
    obtain⟨H2,hH2,hperm⟩:=fin (.msl bT 79 0 (b.reads.length+1) cap2) ([(bT,kR cap2 (b.reads++[rk]) (List.replicate (cap2-(b.reads.length+1)) (.agg [.s [],.b false,.agg (List.replicate 32 (.i .u8 0))])))]) HR' (by exact .inr ⟨bT,cap2,_,JK.rep rfl _,by simp,by simp;omega,rfl⟩) hrun'
    have hH2e:H2.er=H2:=by
     obtain⟨q2,hq2,rfl⟩:=hH2
     exact(hq2.er B).1
    have hgo2:=WP B hH2 hgg n hgn
    refine⟨H2,⟨(T,.var (.arr cap 79) (.agg (b.reads.map qI++j)))::H2,?_,(List.Sublist.refl _).cons _⟩,?_⟩
    ·refine List.Perm.trans ?_ (hperm.cons _)
     refine List.perm_iff_count.2 fun a=>?_
     simp only[List.count_append,List.count_cons,List.count_nil];omega
    (simp (maxSteps:=2000000) (disch:=first|omega|assumption) [zz,-List.reduceReplicate])
    refine qE (R:=fun y H'=>y=.tup []∧jJ B (yQ b1) H') H2 [] (by simp) rfl (by simp[qQ]) (by simp) ?_ ?_
    ·rw[hH2e]
     simpa[TV.er,AV.er]using hgo2
    rintro y H' ⟨rfl,hfin⟩ _
    refine⟨H',by simpa using HSub.refl _,?_⟩
    have hfe:H'.er=H':=by
     obtain⟨q2,hq2,rfl⟩:=hfin
     exact(hq2.er B).1
    (simp (maxSteps:=2000000) (disch:=first|omega|assumption) [zz,-List.reduceReplicate,hfe,Tryz.f18])
    exact⟨H',HSub.refl _,hfin⟩
 | false =>
  have hrk2:rk=⟨k.path,false,zc4⟩:=by rw[hrk];simp[J9,hki]
  have hrkE:qI rk=AV.agg [.s b.asks,.b false,.agg (List.replicate 32 (.i .u8 0))]:=by rw[hrk2,hzd,hp];rfl
  rcases hq.reads with⟨hr0,hrd,hRD⟩|⟨T,cap,j,hj,hrd,hcap,hRD⟩
  ·rw[hRD,hrd]at hnd1 ⊢
   simp[q8.keys]at hnd1
   refine q7.of_vc laid mixed Tryz.func18 rfl zeJ (by kernel_rfl) (by simp[Tryz.ntmps18]) fun imm0 w0=>?_
   (simp (maxSteps:=2000000) (disch:=first|omega|assumption) [zz,-List.reduceReplicate,zH,zO,ho',hp,hki,])
   (repeat with_reducible refine om ?_)
   refine jW.ofK [0,1,2,3,4,5,6,7,8,9,10] [0] [] (by kernel_rfl) ?_
   (simp (maxSteps:=2000000) (disch:=first|omega|assumption) [zz,-List.reduceReplicate])
   (repeat with_reducible refine om ?_)
   intro bT cap' c1 c2 c3 c4
   have c1':¬B=bT:=fun e=>c1 e.symm
   (simp (maxSteps:=2000000) (disch:=first|omega|assumption) [zz,-List.reduceReplicate,c1,c1'])
   (repeat with_reducible refine om ?_)
   have hrow:[(bT,kR cap' (b.reads++[rk]) (List.replicate (cap'-1) (.agg [.s [],.b false,.agg (List.replicate 32 (.i .u8 0))])))]=[(bT,.var (.arr cap' 79) (.agg (AV.agg [.s b.asks,.b false,.agg (List.replicate 32 (.i .u8 0))]::List.replicate (cap'-1) (.agg [.s [],.b false,.agg (List.replicate 32 (.i .u8 0))]))))]:=by rw[hr0];simp[kR,hrkE]
   refine jW.ofK [0,1,2,3,4,5,6] [] [] (by kernel_rfl) ?_
   (simp (maxSteps:=2000000) (disch:=first|omega|assumption) [zz,-List.reduceReplicate,c1,c1'])
   (repeat with_reducible refine om ?_)
   refine qE (R:=fun y H'=>y=.av (.int .i64) (.i .i64 0)∧z6 q.R r' H') q.HR ((B,zO q.R b.outs (jA q.bo q.bi q.ba) q.W (.msl bT 79 0 1 cap') b.asks b.over b.why)::([(bT,kR cap' (b.reads++[rk]) (List.replicate (cap'-1) (.agg [.s [],.b false,.agg (List.replicate 32 (.i .u8 0))])))]++N)) ?_ rfl (by simp[qQ]) (by simp) ?_ ?_
   ·rw[hrow]
    refine List.perm_iff_count.2 fun a=>?_
    simp only[zO,ho',List.count_append,List.count_cons,List.count_nil];omega
   ·rw[hHe]
    have hkf:k=⟨b.asks,k.is,k.data⟩:=by rw[←hp]
    rw[hki]at hkf
    rw[hkf]at hgiv
    simpa[TV.er,AV.er,AV.ers,zH]using hgiv
   rintro y HR' ⟨rfl,hrun'⟩ _
   obtain⟨H2,hH2,hperm⟩:=fin (.msl bT 79 0 1 cap') ([(bT,kR cap' (b.reads++[rk]) (List.replicate (cap'-1) (.agg [.s [],.b false,.agg (List.replicate 32 (.i .u8 0))])))]) HR' (by rw[hr0];exact .inr ⟨bT,cap',_,JK.rep rfl _,rfl,by simp;omega,rfl⟩) hrun'
   have hH2e:H2.er=H2:=by
    obtain⟨q2,hq2,rfl⟩:=hH2
    exact(hq2.er B).1
   have hgo2:=WP B hH2 hgg n hgn
   refine⟨H2,HSub.of_perm ?_,?_⟩
   ·refine List.Perm.trans ?_ hperm
    refine List.perm_iff_count.2 fun a=>?_
    simp only[List.count_append,List.count_cons,List.count_nil];omega
   (simp (maxSteps:=2000000) (disch:=first|omega|assumption) [zz,-List.reduceReplicate])
   refine qE (R:=fun y H'=>y=.tup []∧jJ B (yQ b1) H') H2 [] (by simp) rfl (by simp[qQ]) (by simp) ?_ ?_
   ·rw[hH2e]
    simpa[TV.er,AV.er]using hgo2
   rintro y H' ⟨rfl,hfin⟩ _
   refine⟨H',by simpa using HSub.refl _,?_⟩
   have hfe:H'.er=H':=by
    obtain⟨q2,hq2,rfl⟩:=hfin
    exact(hq2.er B).1
   (simp (maxSteps:=2000000) (disch:=first|omega|assumption) [zz,-List.reduceReplicate,hfe,Tryz.f18])
   exact⟨H',HSub.refl _,hfin⟩
  ·rw[hRD,hrd]at hnd1 ⊢
   simp[q8.keys]at hnd1
   obtain⟨⟨nT,_⟩,_⟩:=hnd1
   have nT':¬T=B:=fun e=>nT e.symm
   have htk:(b.reads.map qI++j).take b.reads.length=b.reads.map qI:=by rw[List.take_append_of_le_length (by simp)];exact List.take_of_length_le (by simp)
   have hdr:(b.reads.map qI++j).drop (b.reads.length+1)=j.tail:=by
    rw[List.drop_append,List.drop_of_length_le (by simp)];simp
   refine q7.of_vc laid mixed Tryz.func18 rfl zeJ (by kernel_rfl) (by simp[Tryz.ntmps18]) fun imm0 w0=>?_
   (simp (maxSteps:=2000000) (disch:=first|omega|assumption) [zz,-List.reduceReplicate,zH,zO,ho',hp,hki,])
   (repeat with_reducible refine om ?_)
   refine jW.ofK [0,1,2,3,4,5,6,7,8,9,10] [0] [] (by kernel_rfl) ?_
   (simp (maxSteps:=2000000) (disch:=first|omega|assumption) [zz,-List.reduceReplicate,nT,nT',kR])
   (repeat with_reducible refine om ?_)
   refine⟨fun hroom=>?_,fun hgrow=>?_⟩
   ·(repeat with_reducible refine om ?_)
    have hrow:[(T,kR cap (b.reads++[rk]) j.tail)]=[(T,.var (.arr cap 79) (.agg ((b.reads.map qI++j).take b.reads.length++AV.agg [.s b.asks,.b false,.agg (List.replicate 32 (.i .u8 0))]::(b.reads.map qI++j).drop (b.reads.length+1))))]:=by rw[htk,hdr];simp[kR,hrkE]
    refine jW.ofK [0,1,2,3,4,5,6] [] [] (by kernel_rfl) ?_
    (simp (maxSteps:=2000000) (disch:=first|omega|assumption) [zz,-List.reduceReplicate,nT,nT'])
    (repeat with_reducible refine om ?_)
    refine qE (R:=fun y H'=>y=.av (.int .i64) (.i .i64 0)∧z6 q.R r' H') q.HR ((B,zO q.R b.outs (jA q.bo q.bi q.ba) q.W (.msl T 79 0 (b.reads.length+1) cap) b.asks b.over b.why)::([(T,kR cap (b.reads++[rk]) j.tail)]++N)) ?_ rfl (by simp[qQ]) (by simp) ?_ ?_
    ·rw[hrow]
     refine List.perm_iff_count.2 fun a=>?_
     simp only[zO,ho',List.count_append,List.count_cons,List.count_nil];omega
    ·rw[hHe]
     have hkf:k=⟨b.asks,k.is,k.data⟩:=by rw[←hp]
     rw[hki]at hkf
     rw[hkf]at hgiv
     simpa[TV.er,AV.er,AV.ers,zH]using hgiv
    rintro y HR' ⟨rfl,hrun'⟩ _
    obtain⟨H2,hH2,hperm⟩:=fin (.msl T 79 0 (b.reads.length+1) cap) ([(T,kR cap (b.reads++[rk]) j.tail)]) HR' (by exact .inr ⟨T,cap,j.tail,hj.tail,by simp,by simp;omega,rfl⟩) hrun'
    have hH2e:H2.er=H2:=by
     obtain⟨q2,hq2,rfl⟩:=hH2
     exact(hq2.er B).1
    have hgo2:=WP B hH2 hgg n hgn
    refine⟨H2,HSub.of_perm ?_,?_⟩
    ·refine List.Perm.trans ?_ hperm
     refine List.perm_iff_count.2 fun a=>?_
     simp only[List.count_append,List.count_cons,List.count_nil];omega
    (simp (maxSteps:=2000000) (disch:=first|omega|assumption) [zz,-List.reduceReplicate])
    refine qE (R:=fun y H'=>y=.tup []∧jJ B (yQ b1) H') H2 [] (by simp) rfl (by simp[qQ]) (by simp) ?_ ?_
    ·rw[hH2e]
     simpa[TV.er,AV.er]using hgo2
    rintro y H' ⟨rfl,hfin⟩ _
    refine⟨H',by simpa using HSub.refl _,?_⟩
    have hfe:H'.er=H':=by
     obtain⟨q2,hq2,rfl⟩:=hfin
     exact(hq2.er B).1
    (simp (maxSteps:=2000000) (disch:=first|omega|assumption) [zz,-List.reduceReplicate,hfe,Tryz.f18])
    exact⟨H',HSub.refl _,hfin⟩
   ·intro bT cap2 c1 c2 c3 c4 c5
    have c1':¬B=bT:=fun e=>c1 e.symm
    (repeat with_reducible refine om ?_)
    (simp (maxSteps:=2000000) (disch:=first|omega|assumption) [zz,-List.reduceReplicate,nT,nT',c1,c1'])
    (repeat with_reducible refine om ?_)
    have hrow:[(bT,kR cap2 (b.reads++[rk]) (List.replicate (cap2-(b.reads.length+1)) (.agg [.s [],.b false,.agg (List.replicate 32 (.i .u8 0))])))]=[(bT,.var (.arr cap2 79) (.agg ((b.reads.map qI++j).take b.reads.length++AV.agg [.s b.asks,.b false,.agg (List.replicate 32 (.i .u8 0))]::List.replicate (cap2-(b.reads.length+1)) (.agg [.s [],.b false,.agg (List.replicate 32 (.i .u8 0))]))))]:=by rw[htk];simp[kR,hrkE]
    refine jW.ofK [0,1,2,3,4,5,6] [] [] (by kernel_rfl) ?_
    (simp (maxSteps:=2000000) (disch:=first|omega|assumption) [zz,-List.reduceReplicate,nT,nT',c1,c1'])
    (repeat with_reducible refine om ?_)
    refine qE (R:=fun y H'=>y=.av (.int .i64) (.i .i64 0)∧z6 q.R r' H') q.HR ((B,zO q.R b.outs (jA q.bo q.bi q.ba) q.W (.msl bT 79 0 (b.reads.length+1) cap2) b.asks b.over b.why)::([(bT,kR cap2 (b.reads++[rk]) (List.replicate (cap2-(b.reads.length+1)) (.agg [.s [],.b false,.agg (List.replicate 32 (.i .u8 0))])))]++((T,.var (.arr cap 79) (.agg (b.reads.map qI++j)))::N))) ?_ rfl (by simp[qQ]) (by simp) ?_ ?_
    ·rw[hrow]
     refine List.perm_iff_count.2 fun a=>?_
     simp only[zO,ho',List.count_append,List.count_cons,List.count_nil];omega
    ·rw[hHe]
     have hkf:k=⟨b.asks,k.is,k.data⟩:=by rw[←hp]
     rw[hki]at hkf
     rw[hkf]at hgiv
     simpa[TV.er,AV.er,AV.ers,zH]using hgiv
    rintro y HR' ⟨rfl,hrun'⟩ _
    obtain⟨H2,hH2,hperm⟩:=fin (.msl bT 79 0 (b.reads.length+1) cap2) ([(bT,kR cap2 (b.reads++[rk]) (List.replicate (cap2-(b.reads.length+1)) (.agg [.s [],.b false,.agg (List.replicate 32 (.i .u8 0))])))]) HR' (by exact .inr ⟨bT,cap2,_,JK.rep rfl _,by simp,by simp;omega,rfl⟩) hrun'
    have hH2e:H2.er=H2:=by
     obtain⟨q2,hq2,rfl⟩:=hH2
     exact(hq2.er B).1
    have hgo2:=WP B hH2 hgg n hgn
    refine⟨H2,⟨(T,.var (.arr cap 79) (.agg (b.reads.map qI++j)))::H2,?_,(List.Sublist.refl _).cons _⟩,?_⟩
    ·refine List.Perm.trans ?_ (hperm.cons _)
     refine List.perm_iff_count.2 fun a=>?_
     simp only[List.count_append,List.count_cons,List.count_nil];omega
    (simp (maxSteps:=2000000) (disch:=first|omega|assumption) [zz,-List.reduceReplicate])
    refine qE (R:=fun y H'=>y=.tup []∧jJ B (yQ b1) H') H2 [] (by simp) rfl (by simp[qQ]) (by simp) ?_ ?_
    ·rw[hH2e]
     simpa[TV.er,AV.er]using hgo2
    rintro y H' ⟨rfl,hfin⟩ _
    refine⟨H',by simpa using HSub.refl _,?_⟩
    have hfe:H'.er=H':=by
     obtain⟨q2,hq2,rfl⟩:=hfin
     exact(hq2.er B).1
    (simp (maxSteps:=2000000) (disch:=first|omega|assumption) [zz,-List.reduceReplicate,hfe,Tryz.f18])
    exact⟨H',HSub.refl _,hfin⟩
end Go.Proofs.YtooipdkilgpojaaGreatDoor
end
section
set_option maxRecDepth 100000
namespace Go.Proofs.YtooipdkilgpojaaGreatDoor
open Go Go.Ab
open Classical
variable [Sel] [SelPow] [SelMax]
@[simp] theorem zAx:qZ Tryz.prog 11=true:=by kernel_rfl
@[simp] theorem zBn:z8 Tryz.prog (.func 11)=false:=q9 zAx
@[simp] theorem zpt:qZ Tryz.prog 6=true:=by kernel_rfl
@[simp] theorem zsO:z8 Tryz.prog (.func 6)=false:=q9 zpt
@[simp] theorem zpx:qZ Tryz.prog 3=true:=by kernel_rfl
@[simp] theorem zsY:z8 Tryz.prog (.func 3)=false:=q9 zpx
@[simp] theorem zps:qZ Tryz.prog 4=true:=by kernel_rfl
@[simp] theorem zt8:z8 Tryz.prog (.func 4)=false:=q9 zps
@[simp] theorem zwR:qZ Tryz.prog 74=true:=by kernel_rfl
@[simp] theorem zxl:z8 Tryz.prog (.func 74)=false:=q9 zwR
@[simp] theorem zEu:qZ Tryz.prog 40=true:=by kernel_rfl
@[simp] theorem zEK:z8 Tryz.prog (.func 40)=false:=q9 zEu
structure Z4 (env:List (Txt × Txt)) (cs:List CmdV) (outs:List Txt) (may:Txt→Bool) (kn:List KnV) (b:BoxV):Prop where
 g:ZJ b
 s:∃wr,WY env (C9 cs) kn outs may wr b
section
variable {env:List (Txt × Txt)} {cs:List CmdV} {outs:List Txt} {may:Txt→Bool} {kn:List KnV} {b:BoxV}
theorem Z4.rl (h:Z4 env cs outs may kn b):b.reads.length≤500:=by
 obtain⟨wr,hs⟩:=h.s
 rw[hs.reads,List.length_map];exact hs.len
theorem Z4.wl (h:Z4 env cs outs may kn b) (ho:outs.length≤1000000):b.wrote.length≤1000000:=by
 obtain⟨wr,hs⟩:=h.s
 have h1:(wr.map (·.path)).length≤outs.length:=List.Nodup.length_le_of_subset hs.nod fun p hp=>by
  obtain⟨w,hw,rfl⟩:=List.mem_map.1 hp
  exact hs.own w hw
 rw[hs.wrote,List.length_map]
 simp only[List.length_map]at h1
 omega
theorem Z4.can (h:Z4 env cs outs may kn b) (k:KnV) (ho:b.over=false) (hp:k.path=b.asks) (hd:k.is=true→k.data.length≤65536):zg6 k b:=by
 obtain⟨wr,hs⟩:=h.s
 obtain⟨h1,h2⟩:=hs.tell ho k hp hd
 exact⟨h2,⟨h.g.good.give k (fun h=>by have:=hd h;omega),h.g.ask.give h.g.good.inv k,h1.at_.ov,h1.no2⟩,⟨_,(V7 h1).1⟩⟩
theorem Z4.give (h:Z4 env cs outs may kn b) (k:KnV) (ho:b.over=false) (hp:k.path=b.asks) (hd:k.is=true→k.data.length≤65536):(kB k b).1=0∧Z4 env cs outs may (kn++[k]) (kB k b).2:=by
 have hc:=h.can k ho hp hd
 obtain⟨wr,hs⟩:=h.s
 obtain⟨h1,m,h2⟩:=hs.give ho k hp hd
 refine⟨h1,?_,_,h2⟩
 have hv:(kB k b).2=yQ (c9 k b):=by unfold kB;rw[if_neg (by rw[ho];decide),if_neg (by simp[hp]),if_neg (fun h=>by have:=hd h.1;omega)];rfl
 obtain⟨n,hn⟩:=hc.go
 rw[hv]
 exact ZJ.goN n hn hc.good
end
theorem zbj {t:Txt} {cs:List CmdV} (h:j7 t=.ok cs) {env:List (Txt × Txt)} (h1:env.length≤1000000000) (h2:∀x∈env,x.2.length≤1000000000000000) (outs:List Txt) (may:Txt→Bool):Z4 env cs outs may [] (ZR env outs may cs):=by
 have hl:=y8 h
 have hgo:=(V7 (zeZ env outs may cs hl)).1
 exact⟨ZJ.goN _ hgo (za8 h h1 h2 outs may),zec env outs may cs hl⟩
theorem KN {b:BoxV} (h:b.over=false):yD b=(⟨0,0,[],[]⟩,false):=by unfold yD;rw[if_pos h]
theorem uJ {b:BoxV} (h:b.over=true):(yD b).2=true:=by
 unfold yD
 rw[if_neg (by rw[h];decide)]
 split<;>rfl
theorem zew {b:BoxV} (h:b.over=true):(yD b).1.reads=b.reads:=by
 unfold yD
 rw[if_neg (by rw[h];decide)]
 split<;>rfl
theorem Z4.askl {env:List (Txt × Txt)} {cs:List CmdV} {outs:List Txt} {may:Txt→Bool} {kn:List KnV} {b:BoxV} (h:Z4 env cs outs may kn b) (ho:b.over=false):b.asks.length≤1040:=by
 obtain⟨wr,hs⟩:=h.s
 cases hs.e with
 | waits d hs' h1 hm hw ha ha2 h3 h4=>rw[ha2];exact zct (h.g.ask.ak hw)
 | read d _ _ _ h3 _=>rw[h3]at ho;cases ho
 | ended d _ _ _ h3 _=>rw[h3]at ho;cases ho
 | short d _ _ _ h3 _=>rw[h3]at ho;cases ho
 | failed d _ _ _ h3 _=>rw[h3]at ho;cases ho
 | wrote d _ _ h3 _=>rw[h3]at ho;cases ho
end Go.Proofs.YtooipdkilgpojaaGreatDoor
end
