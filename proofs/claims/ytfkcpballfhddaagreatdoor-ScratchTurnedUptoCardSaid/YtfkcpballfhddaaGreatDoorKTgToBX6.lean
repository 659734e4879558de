/- What a tool does next; what it is told. No condition. -/
import Derived.Test.YtfkcpballfhddaaGreatDoorKT7ToKTf
set_option linter.unusedSimpArgs false
set_option linter.unusedVariables false
set_option linter.unusedSectionVars false
set_option maxHeartbeats 64000000
set_option maxRecDepth 100000
namespace Go.Proofs.YtfkcpballfhddaaGreatDoor
open Go Go.Ab
open Classical
section
variable [Sel] [SelPow] [SelMax]
abbrev DoT:TyD:=.struct [3,9,9,39]
theorem wF.next {r:qN} (h:wF r):wF (wI r).2:=by
 have hs:=h.settle
 unfold wI
 simp only
 split
 ·exact hs
 ·split
  ·exact⟨hs.inv.of_same rfl rfl rfl rfl rfl rfl,hs.ok,hs.en,hs.ev⟩
  ·exact hs
theorem wF.give {r:qN} (h:wF r) (k:KnV) (hk:k.is=true->k.data.length<=1000000):wF (J7 k r).2:=by
 have hi:=zdl h.inv k hk
 have hs:=h.settle
 refine⟨hi,?_,?_,?_⟩
 all_goals
  unfold J7
  simp only
  split
  ·first|exact hs.ok|exact hs.en|exact hs.ev
  split
  ·first|exact hs.ok|exact hs.en|exact hs.ev
  split
  ·first|exact hs.ok|exact hs.en|exact hs.ev
  ·first|exact hs.ok|exact hs.en|exact hs.ev
theorem zqb (R:Nat) {r:qN} {H:q8} (hH:z8 R r H) (hg:wF r) :
  q7 Tryz.prog 116 [.av .ptr (.ptr R wH [])] H fun y H'=>y=.av DoT (jX (wI r).1)/\z8 R (wI r).2 H':=by
 have jW:=zcE R hH hg
 have her:=hH.er
 obtain⟨s,hs⟩:∃s,s=kZ r:=⟨_,rfl⟩
 have hn:wI r=(if s.waits=true then(⟨1,s.asks,[],0⟩,s) else(s.over,if s.over.kind=2 then { s with over:=do0 } else s)):=by rw[hs];rfl
 rw[<-hs]at jW
 by_cases hw:s.waits=true
 ·rw[if_pos hw]at hn
  rw[hn]
  refine q7.sub (R:=fun y H'=>y=.av DoT (jX ⟨1,s.asks,[],0⟩)/\∃H2,Ab.HSub H2 H'/\z8 R s H2) ?_ fun y H' ⟨h1,H2,h2,h3⟩ _=>⟨H2,h2,h1,h3⟩
  refine zov Tryz.func116 cf0 fun imm0 w0=>?_
  simp (disch:=omega) [zz]
  refine qD (R:=fun y H'=>y=.tup []/\z8 R s H') H [] (by simp) rfl (by simp[qI]) (by simp) ?_ ?_
  ·rw[her]
   simpa[TV.er,AV.er]using jW
  rintro y H' ⟨rfl,hh⟩ _
  refine⟨H',by simpa using HSub.refl _,?_⟩
  obtain⟨p,hp,rfl⟩:=hh
  have her1:=(show z8 R s (p.core R s) from⟨p,hp,rfl⟩).er
  obtain⟨rest,hrest⟩:∃rest,rest=wU p s:=⟨_,rfl⟩
  have hco:=jO p R s
  rw[<-hrest]at hco
  have her3:=her1
  rw[hco,q8.er_cons]at her3
  have e6:=(List.cons.inj her3).2
  obtain⟨_,e2⟩:=hp.todo.er hp.tds
  have e3:=j8 s.env
  rw[hco]
  simp (disch:=omega) [zz,qP,jX,hw]
  simp (disch:=omega) [zz,qP,jX,hw,e2,e3,e6,Tryz.f116]
  refine⟨p.core R s,?_,p,hp,rfl⟩
  rw[hco]
  simp only[qP,jX,hw]
  exact HSub.refl _
 rw[if_neg hw]at hn
 have hw':s.waits=false:=by simpa using hw
 by_cases hk:s.over.kind=2
 ·rw[if_pos hk]at hn
  rw[hn]
  refine q7.sub (R:=fun y H'=>y=.av DoT (jX s.over)/\∃H2,Ab.HSub H2 H'/\z8 R { s with over:=do0 } H2) ?_ fun y H' ⟨h1,H2,h2,h3⟩ _=>⟨H2,h2,h1,h3⟩
  refine zov Tryz.func116 cf0 fun imm0 w0=>?_
  simp (disch:=omega) [zz]
  refine qD (R:=fun y H'=>y=.tup []/\z8 R s H') H [] (by simp) rfl (by simp[qI]) (by simp) ?_ ?_
  ·rw[her]
   simpa[TV.er,AV.er]using jW
  rintro y H' ⟨rfl,hh⟩ _
  refine⟨H',by simpa using HSub.refl _,?_⟩
  obtain⟨p,hp,rfl⟩:=hh
  have her1:=(show z8 R s (p.core R s) from⟨p,hp,rfl⟩).er
  obtain⟨rest,hrest⟩:∃rest,rest=wU p s:=⟨_,rfl⟩
  have hco:=jO p R s
  rw[<-hrest]at hco
  have her3:=her1
  rw[hco,q8.er_cons]at her3
  have e6:=(List.cons.inj her3).2
  obtain⟨_,e2⟩:=hp.todo.er hp.tds
  have e3:=j8 s.env
  rw[hco]
  simp (disch:=omega) [zz,qP,jX,hw',hk]
  simp (disch:=omega) [zz,qP,jX,hw',hk,e2,e3,e6,Tryz.f116]
  refine⟨p.core R { s with over:=do0,waits:=false },?_,p,⟨hp.todo,hp.seen,hp.box,hp.tds⟩,rfl⟩
  rw[jO,show wU p { s with over:=do0,waits:=false }=rest by rw[hrest];rfl]
  simp only[qP,jX,do0]
  exact HSub.refl _
 ·rw[if_neg hk]at hn
  rw[hn]
  refine q7.sub (R:=fun y H'=>y=.av DoT (jX s.over)/\∃H2,Ab.HSub H2 H'/\z8 R s H2) ?_ fun y H' ⟨h1,H2,h2,h3⟩ _=>⟨H2,h2,h1,h3⟩
  refine zov Tryz.func116 cf0 fun imm0 w0=>?_
  simp (disch:=omega) [zz]
  refine qD (R:=fun y H'=>y=.tup []/\z8 R s H') H [] (by simp) rfl (by simp[qI]) (by simp) ?_ ?_
  ·rw[her]
   simpa[TV.er,AV.er]using jW
  rintro y H' ⟨rfl,hh⟩ _
  refine⟨H',by simpa using HSub.refl _,?_⟩
  obtain⟨p,hp,rfl⟩:=hh
  have her1:=(show z8 R s (p.core R s) from⟨p,hp,rfl⟩).er
  obtain⟨rest,hrest⟩:∃rest,rest=wU p s:=⟨_,rfl⟩
  have hco:=jO p R s
  rw[<-hrest]at hco
  have her3:=her1
  rw[hco,q8.er_cons]at her3
  have e6:=(List.cons.inj her3).2
  obtain⟨_,e2⟩:=hp.todo.er hp.tds
  have e3:=j8 s.env
  rw[hco]
  simp (disch:=omega) [zz,qP,jX,hw',hk]
  simp (disch:=omega) [zz,qP,jX,hw',hk,e2,e3,e6,Tryz.f116]
  refine⟨p.core R s,?_,p,hp,rfl⟩
  rw[hco]
  simp only[qP,jX,hw']
  exact HSub.refl _
abbrev KnT:TyD:=.struct [9,4,9]
theorem zjR (p:Txt) (k:KnV):∀l:List KnV,jR l p=none->k.path=p->WG (.s p) (kA k) (knE l)=knE (l++[k])
 | [],_,h=>by subst h;rfl
 | x::l,h,hk=>by
  rw[zb4]at h
  by_cases e:x.path=p
  ·rw[if_pos e]at h;cases h
  ·rw[if_neg e]at h
   have ih:=zjR p k l h hk
   simp only[knE,List.map_cons,WG,List.cons_append,AV.s.injEq,e,if_false]at ih |-
   rw[ih]
abbrev zmN:Cfg:=⟨fun _=>false,fun n=>n==1000010||n==35⟩
theorem zp2 (R:Nat) {r:qN} {H:q8} (hH:z8 R r H) (hg:wF r) (k:KnV) (hkl:k.data.length<=1000000000000000) :
  q7 Tryz.prog 84 [.av .ptr (.ptr R wH []),.av KnT (kA k)] H fun y H'=>y=.av (.int .i64) (.i .i64 (J7 k r).1)/\z8 R (J7 k r).2 H':=by
 have jW:=zcE R hH hg
 have her:=hH.er
 have hsi:=(yZ hg.inv).2.1
 obtain⟨s,hs⟩:∃s,s=kZ r:=⟨_,rfl⟩
 have hn:J7 k r=(if s.waits=false then(19,s) else if k.path≠s.asks then(1,s) else if k.is=true/\65536<k.data.length then(6,s) else(0,{ s with known:=s.known++[k],asks:=[],waits:=false })):=by rw[hs];rfl
 rw[<-hs]at jW hsi
 by_cases hw:s.waits=true
 rotate_left
 ·have hw':s.waits=false:=by simpa using hw
  rw[if_pos hw']at hn
  rw[hn]
  refine q7.sub (R:=fun y H'=>y=.av (.int .i64) (.i .i64 19)/\∃H2,Ab.HSub H2 H'/\z8 R s H2) ?_ fun y H' ⟨h1,H2,h2,h3⟩ _=>⟨H2,h2,h1,h3⟩
  refine zov Tryz.func84 zmN fun imm0 w0=>?_
  simp (disch:=omega) [zz,kA]
  refine qD (R:=fun y H'=>y=.tup []/\z8 R s H') H [] (by simp) rfl (by simp[qI]) (by simp) ?_ ?_
  ·rw[her]
   simpa[TV.er,AV.er]using jW
  rintro y H' ⟨rfl,hh⟩ hnd
  refine⟨H',by simpa using HSub.refl _,?_⟩
  obtain⟨p,hp,rfl⟩:=hh
  have her1:=(show z8 R s (p.core R s) from⟨p,hp,rfl⟩).er
  obtain⟨rest,hrest⟩:∃rest,rest=wU p s:=⟨_,rfl⟩
  have hco:=jO p R s
  rw[<-hrest]at hco
  have her3:=her1
  rw[hco,q8.er_cons]at her3
  have e6:=(List.cons.inj her3).2
  obtain⟨_,e2⟩:=hp.todo.er hp.tds
  have e3:=j8 s.env
  rw[hco]
  simp (disch:=omega) [zz,qP,jX,hw']
  simp (disch:=omega) [zz,e2,e3,e6,jX,Tryz.f84]
  refine⟨p.core R s,?_,p,hp,rfl⟩
  rw[hco]
  simp only[qP,jX,hw']
  exact HSub.refl _
 rw[if_neg (by rw[hw];decide)]at hn
 by_cases hp1:k.path=s.asks
 rotate_left
 ·rw[if_pos hp1]at hn
  rw[hn]
  refine q7.sub (R:=fun y H'=>y=.av (.int .i64) (.i .i64 1)/\∃H2,Ab.HSub H2 H'/\z8 R s H2) ?_ fun y H' ⟨h1,H2,h2,h3⟩ _=>⟨H2,h2,h1,h3⟩
  refine zov Tryz.func84 zmN fun imm0 w0=>?_
  simp (disch:=omega) [zz,kA]
  refine qD (R:=fun y H'=>y=.tup []/\z8 R s H') H [] (by simp) rfl (by simp[qI]) (by simp) ?_ ?_
  ·rw[her]
   simpa[TV.er,AV.er]using jW
  rintro y H' ⟨rfl,hh⟩ hnd
  refine⟨H',by simpa using HSub.refl _,?_⟩
  obtain⟨p,hp,rfl⟩:=hh
  have her1:=(show z8 R s (p.core R s) from⟨p,hp,rfl⟩).er
  obtain⟨rest,hrest⟩:∃rest,rest=wU p s:=⟨_,rfl⟩
  have hco:=jO p R s
  rw[<-hrest]at hco
  have her3:=her1
  rw[hco,q8.er_cons]at her3
  have e6:=(List.cons.inj her3).2
  obtain⟨_,e2⟩:=hp.todo.er hp.tds
  have e3:=j8 s.env
  rw[hco]
  simp (disch:=omega) [zz,qP,jX,hw,hp1]
  simp (disch:=omega) [zz,e2,e3,e6,jX,Tryz.f84]
  refine⟨p.core R s,?_,p,hp,rfl⟩
  rw[hco]
  simp only[qP,jX,hw]
  exact HSub.refl _
 rw[if_neg (by simpa using hp1)]at hn
 by_cases hbig:k.is=true/\65536<k.data.length
 ·have hb':(65536:Int)<k.data.length:=by omega
  have hki:=hbig.1
  rw[if_pos hbig]at hn
  rw[hn]
  refine q7.sub (R:=fun y H'=>y=.av (.int .i64) (.i .i64 6)/\∃H2,Ab.HSub H2 H'/\z8 R s H2) ?_ fun y H' ⟨h1,H2,h2,h3⟩ _=>⟨H2,h2,h1,h3⟩
  refine zov Tryz.func84 zmN fun imm0 w0=>?_
  simp (disch:=omega) [zz,kA]
  refine qD (R:=fun y H'=>y=.tup []/\z8 R s H') H [] (by simp) rfl (by simp[qI]) (by simp) ?_ ?_
  ·rw[her]
   simpa[TV.er,AV.er]using jW
  rintro y H' ⟨rfl,hh⟩ hnd
  refine⟨H',by simpa using HSub.refl _,?_⟩
  obtain⟨p,hp,rfl⟩:=hh
  have her1:=(show z8 R s (p.core R s) from⟨p,hp,rfl⟩).er
  obtain⟨rest,hrest⟩:∃rest,rest=wU p s:=⟨_,rfl⟩
  have hco:=jO p R s
  rw[<-hrest]at hco
  have her3:=her1
  rw[hco,q8.er_cons]at her3
  have e6:=(List.cons.inj her3).2
  obtain⟨_,e2⟩:=hp.todo.er hp.tds
  have e3:=j8 s.env
  rw[hco]
  simp (disch:=omega) [zz,qP,jX,hw,hp1,hki,hb']
  simp (disch:=omega) [zz,e2,e3,e6,jX,Tryz.f84]
  refine⟨p.core R s,?_,p,hp,rfl⟩
  rw[hco]
  simp only[qP,jX,hw]
  exact HSub.refl _
 rw[if_neg hbig]at hn
 have hfn:jR s.known s.asks=none:=by
  rcases hsi with⟨_,h2⟩|⟨l,c,q,e,h2,h3,h4,_⟩
  ·rw[hw]at h2;cases h2
  ·obtain⟨g1,g2,g3⟩:=h4 hw
   rw[g1];exact g2
 have hmp:=zjR s.asks k s.known hfn hp1
 rw[kA,hp1]at hmp
 rw[hn]
 have hmm:=zdT (s.known++[k])
 cases hki:k.is with
 | false =>
  rw[hki]at hmp
  refine q7.sub (R:=fun y H'=>y=.av (.int .i64) (.i .i64 0)/\∃H2,Ab.HSub H2 H'/\z8 R { s with known:=s.known++[k],asks:=[],waits:=false } H2) ?_ fun y H' ⟨h1,H2,h2,h3⟩ _=>⟨H2,h2,h1,h3⟩
  refine zov Tryz.func84 zmN fun imm0 w0=>?_
  simp (disch:=omega) [zz,kA]
  refine qD (R:=fun y H'=>y=.tup []/\z8 R s H') H [] (by simp) rfl (by simp[qI]) (by simp) ?_ ?_
  ·rw[her]
   simpa[TV.er,AV.er]using jW
  rintro y H' ⟨rfl,hh⟩ hnd
  refine⟨H',by simpa using HSub.refl _,?_⟩
  obtain⟨p,hp,rfl⟩:=hh
  have her1:=(show z8 R s (p.core R s) from⟨p,hp,rfl⟩).er
  obtain⟨rest,hrest⟩:∃rest,rest=wU p s:=⟨_,rfl⟩
  have hco:=jO p R s
  rw[<-hrest]at hco
  have her3:=her1
  rw[hco,q8.er_cons]at her3
  have e6:=(List.cons.inj her3).2
  obtain⟨_,e2⟩:=hp.todo.er hp.tds
  have e3:=j8 s.env
  obtain⟨n1,n2⟩:=jF.KR (by simpa using hnd)
  obtain⟨rest2,hrest2⟩:∃rest2:q8,rest2=p.TA++(p.QH++p.S):=⟨_,rfl⟩
  have e7:rest=(p.K,.map 9 68 (knE s.known))::rest2:=by rw[hrest,hrest2];rfl
  rw[e7,q8.er_cons]at e6
  have e8:=(List.cons.inj e6).2
  rw[hco,e7]
  simp (disch:=omega) [zz,qP,jX,hw,hp1,hki,n1,n2,hmp]
  refine kI.ofK [0,1,2,3,4,5,6,7,8,9] [] [] (by kernel_rfl) ?_
  simp (disch:=omega) [zz,hw,hp1,hki,n1,n2,hmp]
  (repeat with_reducible refine om ?_)
  simp (disch:=omega) [zz,hw,hp1,hki,n1,n2,hmp,e2,e3,e8,hmm,Tryz.f84]
  refine⟨p.core R { s with known:=s.known++[k],asks:=[],waits:=false },?_,p,⟨hp.todo,hp.seen,hp.box,hp.tds⟩,rfl⟩
  rw[jO,show wU p { s with known:=s.known++[k],asks:=[],waits:=false }=(p.K,.map 9 68 (knE (s.known++[k])))::rest2 by rw[hrest2];rfl]
  simp only[qP,jX]
  exact HSub.refl _
 | true =>
  have hb':¬(65536:Int)<k.data.length:=by
   intro h;exact hbig ⟨hki,by omega⟩
  rw[hki]at hmp
  refine q7.sub (R:=fun y H'=>y=.av (.int .i64) (.i .i64 0)/\∃H2,Ab.HSub H2 H'/\z8 R { s with known:=s.known++[k],asks:=[],waits:=false } H2) ?_ fun y H' ⟨h1,H2,h2,h3⟩ _=>⟨H2,h2,h1,h3⟩
  refine zov Tryz.func84 zmN fun imm0 w0=>?_
  simp (disch:=omega) [zz,kA]
  refine qD (R:=fun y H'=>y=.tup []/\z8 R s H') H [] (by simp) rfl (by simp[qI]) (by simp) ?_ ?_
  ·rw[her]
   simpa[TV.er,AV.er]using jW
  rintro y H' ⟨rfl,hh⟩ hnd
  refine⟨H',by simpa using HSub.refl _,?_⟩
  obtain⟨p,hp,rfl⟩:=hh
  have her1:=(show z8 R s (p.core R s) from⟨p,hp,rfl⟩).er
  obtain⟨rest,hrest⟩:∃rest,rest=wU p s:=⟨_,rfl⟩
  have hco:=jO p R s
  rw[<-hrest]at hco
  have her3:=her1
  rw[hco,q8.er_cons]at her3
  have e6:=(List.cons.inj her3).2
  obtain⟨_,e2⟩:=hp.todo.er hp.tds
  have e3:=j8 s.env
  obtain⟨n1,n2⟩:=jF.KR (by simpa using hnd)
  obtain⟨rest2,hrest2⟩:∃rest2:q8,rest2=p.TA++(p.QH++p.S):=⟨_,rfl⟩
  have e7:rest=(p.K,.map 9 68 (knE s.known))::rest2:=by rw[hrest,hrest2];rfl
  rw[e7,q8.er_cons]at e6
  have e8:=(List.cons.inj e6).2
  rw[hco,e7]
  simp (disch:=omega) [zz,qP,jX,hw,hp1,hki,hb',n1,n2,hmp]
  refine kI.ofK [0,1,2,3,4,5,6,7,8,9] [] [] (by kernel_rfl) ?_
  simp (disch:=omega) [zz,hw,hp1,hki,hb',n1,n2,hmp]
  (repeat with_reducible refine om ?_)
  simp (disch:=omega) [zz,hw,hp1,hki,hb',n1,n2,hmp,e2,e3,e8,hmm,Tryz.f84]
  refine⟨p.core R { s with known:=s.known++[k],asks:=[],waits:=false },?_,p,⟨hp.todo,hp.seen,hp.box,hp.tds⟩,rfl⟩
  rw[jO,show wU p { s with known:=s.known++[k],asks:=[],waits:=false }=(p.K,.map 9 68 (knE (s.known++[k])))::rest2 by rw[hrest2];rfl]
  simp only[qP,jX]
  exact HSub.refl _
theorem zbL (l:List (Txt × Txt)) (hl:l.length<=1000000):PC Tryz.prog 77 [.av (.slice 136) (j6 l)] (.av (.slice 136) (j6 l)):=by
 have hby:Tryz.prog.bytesOf 136=32:=by kernel_rfl
 refine zow Tryz.func77 cf0 fun imm0 w0=>?_
 simp (disch:=omega) [zz,j6]
 refine⟨?_,?_⟩
 ·intro h
  subst h
  simp (disch:=omega) [zz,Tryz.f77]
 ·simp (disch:=omega) [zz,y4,hby,Tryz.f77]
  exact⟨by omega,by omega,by simp[AV.ers_eq,Function.comp_def]⟩
theorem zgH {H:q8} {b:Nat} {o:HObj} (hn:H.keys.Nodup) (h:(b,o)∈H):k8 H b=some o:=by
 induction H with
 | nil=>cases h
 | cons x r ih =>
  obtain⟨b',o'⟩:=x
  have hn':(b'::q8.keys r).Nodup:=hn
  rw[List.nodup_cons]at hn'
  rcases List.mem_cons.1 h with e|e
  ·cases e;simp[k8]
  ·have hne:¬b'=b:=fun e'=>hn'.1 (e'▸List.mem_map.2 ⟨_,e,rfl⟩)
   simp only[k8,hne,if_false]
   exact ih hn'.2 e
def YU (env:List (Txt × Txt)) (cs:List CmdV):qN:=⟨(cs.reverse).map .cmd,env,[],[],[],false,do0,[]⟩
theorem G8 (l:List (Txt × Txt)):(j6 l).er=j6 l:=by simp[j6,AV.er,AV.ers_eq,WR,Function.comp_def,AV.ers]
theorem uE (c:CmdV):(zX c).erk=zX c:=kX _ (zdJ c)
def zc6 (t:Txt) (env:List (Txt × Txt)) (y:TV) (H':q8):Prop:=match jB t with
 | .error (e,_)=>y=.tup [(.ptr,.nilptr),(.int .i64,.i .i64 e)]/\H'=[]
 | .ok cs=>∃R,y=.tup [(.ptr,.ptr R wH []),(.int .i64,.i .i64 0)]/\z8 R (YU env cs) H'
theorem X7 {t:Txt} {e:Int} {n:Nat} (h:jB t=.error (e,n)):e=6\/e=3:=by
 unfold jB at h
 split at h
 ·cases h;exact .inl rfl
 ·split at h
  ·cases h
  ·cases h;exact .inr rfl
theorem ZC {t:Txt} {cs:List CmdV} (h:jB t=.ok cs):cs.length<=400:=by
 unfold jB at h
 split at h
 ·cases h
 ·rename_i hn
  split at h
  ·rename_i l hl
   cases h
   have:=dM _ _ _ hl
   omega
  ·cases h
abbrev zln:Cfg:=⟨fun n=>n==9||n==11||n==25,fun n=>n==24||n==1000007||n==2000037||n==39⟩
theorem znb (t:Txt) (ht:t.length<=1000000) (env:List (Txt × Txt)) (hel:env.length<=1000000) :
  q7 Tryz.prog 76 [.av .str (.s t),.av (.slice 136) (j6 env)] [] (zc6 t env):=by
 have hpc:=cQ t ht
 have hcl:=zbL env hel
 refine q7.sub (R:=fun y H'=>∃H2,Ab.HSub H2 H'/\zc6 t env y H2) ?_ fun y H' ⟨H2,h2,h3⟩ _=>⟨H2,h2,h3⟩
 unfold zc6
 unfold zbW at hpc
 have hce:=j8 env
 cases hcv:jB t with
 | error en =>
  obtain⟨e,n⟩:=en
  rw[hcv]at hpc
  have he:¬e=0:=by rcases X7 hcv with h|h<;>omega
  refine zov Tryz.func76 zln fun imm0 w0=>?_
  simp (disch:=omega) [zz]
  refine zcv hpc ?_
  simp (disch:=omega) [zz,he,Tryz.f76]
  exact HSub.refl _
 | ok ls =>
 rw[hcv]at hpc
 have hll:=ZC hcv
 simp only at hpc |-
 refine zov Tryz.func76 zln fun imm0 w0=>?_
 simp (disch:=omega) [zz]
 refine zcv hpc ?_
 simp (disch:=omega) [zz]
 refine qG hcl rfl rfl (by simp) (by simp[qM,TV.er,G8]) ?_
 simp (disch:=omega) [zz,j6]
 intro K R n1 br n2 n3
 obtain⟨r,hr⟩:∃r:qN,r=⟨[],env,[],[],[],false,do0,[]⟩:=⟨_,rfl⟩
 obtain⟨p,hpe⟩:∃p:jF,p=⟨K,none,[],[],[(br,zJ R)],[],.nsl⟩:=⟨_,rfl⟩
 have hp:p.OK R r:=by
  rw[hpe,hr]
  exact⟨.inl ⟨rfl,rfl,rfl⟩,.inl ⟨rfl,rfl⟩,rfl,.nil⟩
 have hbr:(br,zJ R)∈p.S:=by rw[hpe];simp
 have htd:r.todo.length<=1000000000:=by rw[hr];simp
 have hcore:p.core R r=(R,qP .nsl (j6 env) [] K [] false do0)::(K,.map 9 68 [])::[(br,zJ R)]:=by
  rw[hpe,hr];simp[jF.core,knE]
 refine qD (R:=fun r' H'=>∃c,r'=.av .func (.fn 138 [.ptr c ziy []])/\H'=[(c,bcO ls)]) [] (p.core R r) ?_ rfl (by simp[qI]) (by simp) ?_ ?_
 ·rw[hcore,List.nil_append]
  refine List.perm_iff_count.2 fun a=>?_
  simp only[List.count_cons,List.count_nil,wH,qP,j6,jX,do0,zJ]
  omega
 ·simpa[TV.er,AV.er]using zoy ls
 rintro r' H' ⟨c,rfl,rfl⟩ hnd2
 refine⟨(c,bcO ls)::p.core R r,HSub.refl _,?_⟩
 simp (disch:=omega) [zz]
 refine AT.absE (fun E=>E 9=.av .ptr (.ptr br .ptr [])/\E 27=.av .func (.fn 138 [.ptr c ziy []])) (by simp) ?_
 rintro E ⟨hE1,hE9⟩
 refine AT.range (gf:=138) rfl (by simpa using hE9) rfl (by simp) ?_
 intro y D rr i0 w1 hy hrec hready hpend hpar has hbo
 obtain⟨G,hG⟩:∃G:Nat->q8->Prop,G=fun k H=>∃p':jF,p'.OK R (yF r ((ls.reverse.take k).map TdV.cmd))/\(br,zJ R)∈p'.S/\H=(y,.lrec rr i0 w1)::p'.core R (yF r ((ls.reverse.take k).map TdV.cmd)):=⟨_,rfl⟩
 refine⟨(c,bcO ls)::(y,.lrec rr i0 w1)::p.core R r,[],fun t H'=>t=.tup []/\∃H1,G ls.length H1/\H'=(c,bcO ls)::H1,?_,?_,?_⟩
 ·rw[List.append_nil]
  exact List.Perm.swap _ _ _
 ·have her:=(show z8 R r (p.core R r) from⟨p,hp,rfl⟩).er
  have he:q8.er ((c,bcO ls)::(y,.lrec rr i0 w1)::p.core R r)=(c,bcO ls)::(y,.lrec rr i0 w1)::p.core R r:=by
   rw[q8.er_cons,q8.er_cons,her,zm8];rfl
  rw[he]
  refine zk5 (G:=G) y c ls (by omega) ?_ ?_ _ ?_
  ·rw[hG]
   rintro k H ⟨p',hp',_,rfl⟩
   rw[q8.er_cons,(show z8 R _ (p'.core R _) from⟨p',hp',rfl⟩).er];rfl
  ·rw[hG]
   rintro k hk H ⟨p',hp',hbr',rfl⟩
   obtain⟨x,hx⟩:∃x,x=ls[ls.length-1-k]'(by omega):=⟨_,rfl⟩
   obtain⟨r1,hr1⟩:∃r1,r1=yF r ((ls.reverse.take k).map TdV.cmd):=⟨_,rfl⟩
   have hnx:yF r ((ls.reverse.take (k+1)).map TdV.cmd)=yF r1 [.cmd x]:=by
    rw[List.take_succ_eq_append_getElem (by simpa using hk),List.getElem_reverse,hr1,hx]
    simp[yF]
   have hr1t:r1.todo.length<=2000000000:=by
    rw[hr1]
    simp[yF]
    omega
   rw[<-hr1]at hp' |-
   rw[<-hx]
   refine zhg (R:=fun rrr H'=>rrr=.av .bool (.b true)/\∃p'':jF,p''.OK R (yF r1 [.cmd x])/\(br,zJ R)∈p''.S/\Ab.HSub ((y,.lrec rr i0 w1)::p''.core R (yF r1 [.cmd x])) H') ?_ (fun rrr H' ⟨e1,p'',e2,e4,e7⟩ _=>⟨_,e7,e1,p'',by rw[hnx];exact e2,e4,by rw[hnx]⟩)
   refine zfl fun hnd=>?_
   obtain⟨S2,hS2⟩:=C3 hbr'
   obtain⟨rest,hrest⟩:∃rest:q8,rest=(p'.K,.map 9 68 (knE r1.known))::(p'.QH++S2):=⟨_,rfl⟩
   have hp1:((y,HObj.lrec rr i0 w1)::p'.core R r1).Perm ((y,.lrec rr i0 w1)::(R,qP p'.ta (j6 r1.env) r1.buf p'.K r1.asks r1.waits r1.over)::(br,zJ R)::(p'.TA++rest)):=by
    refine List.perm_iff_count.2 fun a=>?_
    have:=hS2.count_eq a
    rw[hrest]
    simp only[jF.core,List.count_append,List.count_cons]at this |-
    omega
   have hnd1:(q8.keys ((y,HObj.lrec rr i0 w1)::(R,qP p'.ta (j6 r1.env) r1.buf p'.K r1.asks r1.waits r1.over)::(br,zJ R)::(p'.TA++rest))).Nodup:=by
    have h1:(((y,HObj.lrec rr i0 w1)::p'.core R r1).map Prod.fst).Nodup:=hnd
    exact(hp1.map Prod.fst).nodup_iff.1 h1
   have hrer:rest.er=rest:=by
    have h1:=PF hp1 (by rw[q8.er_cons,(show z8 R _ (p'.core R _) from⟨p',hp',rfl⟩).er];rfl)
    exact XC.2 fun z hz=>XC.1 h1 z (by simp[hz])
   refine zjO hp1 ?_
   refine YC.of_round (l:=y) hrec hready (by rw[hpar];rfl) (by rw[hpar];simp) (fun imm wd=>?_)
   rw[has,hbo,hpar]
   have hrl:∀(pp:Array Nat) (a b:Code),pp=rr.params->a=rr.assign->b=rr.body->({ state:=.ready,pending:=none,fn:=rr.fn,tmps:=rr.tmps,params:=pp,assign:=a,body:=b,defers:=rr.defers }:Loop)=rr:=by
    rintro _ _ _ rfl rfl rfl;exact V7 hready hpend
   have her:∀r',(HObj.lrec r' i0 w1).er=HObj.lrec r' i0 w1:=fun _=>rfl
   have fin:∀(b6:Nat) (ta':AV) (TA' H':q8),zcH (p'.fs++[.fn 111 [.ptr br .ptr [],.ptr b6 ZR []]]) ta' TA'->
     Ab.HSub ((b6,w5 x)::(y,.lrec rr i0 w1)::(R,qP ta' (j6 r1.env) r1.buf p'.K r1.asks r1.waits r1.over)::(br,zJ R)::(TA'++rest)) H'->
     ∃p'':jF,p''.OK R (yF r1 [.cmd x])/\(br,zJ R)∈p''.S/\Ab.HSub ((y,.lrec rr i0 w1)::p''.core R (yF r1 [.cmd x])) H':=by
    intro b6 ta' TA' H' hT hsub
    refine⟨{ p' with TA:=TA',S:=(b6,w5 x)::p'.S,fs:=p'.fs++[.fn 111 [.ptr br .ptr [],.ptr b6 ZR []]],ta:=ta' },⟨hT,hp'.seen,?_,?_⟩,List.mem_cons_of_mem _ hbr',?_⟩
    ·show q8.er ((b6,w5 x)::p'.S)=_
     rw[q8.er_cons,hp'.box]
     simp[w5,HObj.er_var,uE]
    ·exact(hp'.tds.mono fun z hz=>List.mem_cons_of_mem _ hz).one ⟨br,b6,rfl,List.mem_cons_of_mem _ hbr',List.mem_cons_self⟩
    ·refine uU (HSub.of_perm ?_) hsub
     refine List.perm_iff_count.2 fun a=>?_
     have:=hS2.count_eq a
     rw[hrest]
     simp only[jF.core,yF,List.count_append,List.count_cons]at this |-
     omega
   rcases hp'.todo with⟨hfs,hta,hTA⟩|⟨T,cap,j,hj,hta,hcap,hTA⟩
   ·rw[hTA]at hnd1 |-
    rw[hta]
    rw[hfs]at fin
    simp at hnd1
    obtain⟨⟨n1,n2,n3⟩,⟨n4,n5⟩,n6,n7⟩:=hnd1
    have n1':¬R=y:=fun e=>n1 e.symm
    have n2':¬br=y:=fun e=>n2 e.symm
    have n4':¬br=R:=fun e=>n4 e.symm
    refine zrd zln ?_
    simp (disch:=omega) [zz,JA,Z5,pD,hE1]
    intro b6 m1 m2 m3 m4
    have m1':¬y=b6:=fun e=>m1 e.symm
    have m2':¬R=b6:=fun e=>m2 e.symm
    have m3':¬br=b6:=fun e=>m3 e.symm
    refine⟨by assumption,?_⟩
    refine zrd zln ?_
    simp (disch:=omega) [zz]
    refine kI.ofK [0,1,2,3,4,5,6,7,8,9,10] [0] [br] (by kernel_rfl) ?_
    simp (disch:=omega) [zz,hE1,n1,n2,n4,n1',n2',n4',m1,m2,m3,m1',m2',m3',zJ,qP]
    (repeat with_reducible refine om ?_)
    intro b cap c1 c2 c3 c4 c5 c6
    have c1':¬b6=b:=fun e=>c1 e.symm
    have c2':¬y=b:=fun e=>c2 e.symm
    have c3':¬R=b:=fun e=>c3 e.symm
    have c4':¬br=b:=fun e=>c4 e.symm
    refine⟨c4,?_⟩
    (repeat with_reducible refine om ?_)
    simp (disch:=omega) [zz,n1,n2,n4,n1',n2',n4',m1,m2,m3,m1',m2',m3',c1,c2,c3,c4,c1',c2',c3',c4']
    simp (disch:=omega) [zz,X4,gJ,hrer,j8,Z9,n1,n2,n4,n1',n2',n4',m1,m2,m3,m1',m2',m3',c1,c2,c3,c4,c1',c2',c3',c4']
    rw[her,hrl _ _ _ hpar.symm has.symm hbo.symm,show AV.erks (List.replicate (cap-1) AV.nilfn)=_ from JK.rep rfl _]
    refine fin b6 (.msl b 1 0 1 cap) [(b,.var (.arr cap 1) (.agg (_::List.replicate (cap-1) .nilfn)))] _ (.inr ⟨b,cap,List.replicate (cap-1) .nilfn,JK.rep rfl _,rfl,by simp;omega,rfl⟩) (HSub.of_perm ?_)
    refine List.perm_iff_count.2 fun a=>?_
    simp only[List.count_append,List.count_cons,List.count_nil,ZR,uE,w5,zJ,qP]
    omega
   ·rw[hTA]at hnd1 |-
    rw[hta]
    simp at hnd1
    obtain⟨⟨n1,n2,n8,n3⟩,⟨n4,n9,n5⟩,⟨n10,n6⟩,n11,n7⟩:=hnd1
    have n1':¬R=y:=fun e=>n1 e.symm
    have n2':¬br=y:=fun e=>n2 e.symm
    have n4':¬br=R:=fun e=>n4 e.symm
    have n8':¬T=y:=fun e=>n8 e.symm
    have n9':¬T=R:=fun e=>n9 e.symm
    have n10':¬T=br:=fun e=>n10 e.symm
    have hfl:=hp'.tds.len
    have hcapn:(0:Nat)+cap=cap:=by omega
    obtain⟨fs,hfs⟩:∃fs,fs=p'.fs:=⟨_,rfl⟩
    rw[<-hfs]at fin hfl hcap |-
    have hjfs:=hp'.tds.jk
    rw[<-hfs]at hjfs
    refine zrd zln ?_
    simp (disch:=omega) [zz,JA,Z5,pD,hE1]
    intro b6 m1 m2 m3 m5 m4
    have m1':¬y=b6:=fun e=>m1 e.symm
    have m2':¬R=b6:=fun e=>m2 e.symm
    have m3':¬br=b6:=fun e=>m3 e.symm
    have m5':¬T=b6:=fun e=>m5 e.symm
    refine⟨by assumption,?_⟩
    refine zrd zln ?_
    simp (disch:=omega) [zz]
    refine kI.ofK [0,1,2,3,4,5,6,7,8,9,10] [0] [br] (by kernel_rfl) ?_
    simp (disch:=omega) [zz,hE1,n1,n2,n4,n1',n2',n4',n8,n9,n10,n8',n9',n10',m1,m2,m3,m1',m2',m3',m5,m5',zJ,qP]
    (repeat with_reducible refine om ?_)
    refine⟨fun hroom=>?_,fun hgrow=>?_⟩
    ·(repeat with_reducible refine om ?_)
     simp (disch:=omega) [zz,X4,gJ,hrer,j8,Z9,n1,n2,n4,n1',n2',n4',n8,n9,n10,n8',n9',n10',m1,m2,m3,m1',m2',m3',m5,m5']
     rw[her,hrl _ _ _ hpar.symm has.symm hbo.symm]
     rw[show AV.erks (fs++AV.fn 111 [.ptr br .ptr [],.ptr b6 ZR []]::j.tail)=_ from hjfs.app (JK.cons rfl hj.tail),List.append_cons]
     refine fin b6 (.msl T 1 0 (fs.length+1) cap) [(T,.var (.arr cap 1) (.agg (fs++[_]++j.tail)))] _ (.inr ⟨T,cap,j.tail,hj.tail,by simp,by simp;omega,rfl⟩) (HSub.of_perm ?_)
     refine List.perm_iff_count.2 fun a=>?_
     simp only[List.count_append,List.count_cons,List.count_nil,ZR,uE,w5,zJ,qP]
     omega
    ·intro b cap2 c1 c2 c3 c4 c7 c5 c6
     have c1':¬b6=b:=fun e=>c1 e.symm
     have c2':¬y=b:=fun e=>c2 e.symm
     have c3':¬R=b:=fun e=>c3 e.symm
     have c4':¬br=b:=fun e=>c4 e.symm
     have c7':¬T=b:=fun e=>c7 e.symm
     refine⟨c4,?_⟩
     (repeat with_reducible refine om ?_)
     simp (disch:=omega) [zz,n1,n2,n4,n1',n2',n4',n8,n9,n10,n8',n9',n10',m1,m2,m3,m1',m2',m3',m5,m5',c1,c2,c3,c4,c7,c1',c2',c3',c4',c7']
     simp (disch:=omega) [zz,X4,gJ,hrer,j8,Z9,n1,n2,n4,n1',n2',n4',n8,n9,n10,n8',n9',n10',m1,m2,m3,m1',m2',m3',m5,m5',c1,c2,c3,c4,c7,c1',c2',c3',c4',c7']
     rw[her,hrl _ _ _ hpar.symm has.symm hbo.symm]
     rw[show AV.erks (fs++AV.fn 111 [.ptr br .ptr [],.ptr b6 ZR []]::List.replicate (cap2-(fs.length+1)) AV.nilfn)=_ from hjfs.app (JK.cons rfl (JK.rep rfl _)),List.append_cons]
     refine fin b6 (.msl b 1 0 (fs.length+1) cap2) [(b,.var (.arr cap2 1) (.agg (fs++[_]++List.replicate (cap2-(fs.length+1)) .nilfn)))] _ (.inr ⟨b,cap2,_,JK.rep rfl _,by simp,by simp;omega,rfl⟩) ⟨(T,.var (.arr cap 1) (.agg (AV.erks (fs++j))))::_,?_,(List.Sublist.refl _).cons _⟩
     refine List.perm_iff_count.2 fun a=>?_
     simp only[List.count_append,List.count_cons,List.count_nil,ZR,uE,w5,zJ,qP]
     omega
  ·rw[hG]
   exact⟨p,by simpa[yF]using hp,hbr,by simp[yF]⟩
 ·rintro t H' ⟨rfl,H1,hg,rfl⟩ hnd3
  rw[hG]at hg
  obtain⟨p',hp',hbr',rfl⟩:=hg
  refine⟨rr,(c,bcO ls)::p'.core R _,HSub.of_perm (by rw[List.append_nil];exact List.Perm.swap _ _ _),by rw[hready];simp,?_⟩
  rw[hpend]
  have her:=(show z8 R _ (p'.core R _) from⟨p',hp',rfl⟩).er
  have hfin:yF r ((ls.reverse.take ls.length).map TdV.cmd)=YU env ls:=by
   rw[List.take_of_length_le (by simp)]
   simp[YU,yF,hr]
  rw[hfin]at her hp'
  rw[hfin]
  have hnd4:(q8.keys ((c,bcO ls)::(y,HObj.lrec rr i0 w1)::p'.core R (YU env ls))).Nodup:=by
   have:=hnd3
   rw[hfin,List.append_nil]at this
   exact this
  have h1:(c::y::(p'.core R (YU env ls)).keys).Nodup:=hnd4
  rw[List.nodup_cons,List.nodup_cons]at h1
  have hmb:(br,zJ R)∈p'.core R (YU env ls):=jF.memS hbr'
  have hcb:¬c=br:=fun e=>h1.1 (List.mem_cons_of_mem _ (e▸List.mem_map.2 ⟨_,hmb,rfl⟩))
  have hgb:k8 (p'.core R (YU env ls)) br=some (zJ R):=zgH h1.2.2 hmb
  simp (disch:=omega) [zz,zbk,hE1,hcb,hgb,zJ,Tryz.f76,her]
  exact⟨p'.core R (YU env ls),HSub.of_sub ((List.Sublist.refl _).cons _),p',hp',rfl⟩
abbrev VY:TyD:=.struct [131,24,61,138,44,9,4,39]
def wrE (l:List (Txt × Txt)):List (AV × AV):=l.map fun x=>(.s x.1,.s x.2)
noncomputable def zY (R:Nat) (outs:List Txt) (mf:AV) (W:Nat) (rd:AV) (asks:Txt) (over:Bool) (why:Int):HObj:=.var VY (.agg [.ptr R wH [],.sl .no (strs outs),mf,.map (some W),rd,.s asks,.b over,.i .i64 why])
noncomputable def wrO (l:List (Txt × Txt)):HObj:=.map 9 9 (wrE l)
theorem KC {R:Nat} {outs:List Txt} {mf:AV} {W:Nat} {rd:AV} {asks:Txt} {over:Bool} {why:Int} (h1:mf.erk=mf) (h2:rd.erk=rd):(zY R outs mf W rd asks over why).er=zY R outs mf W rd asks over why:=by
 simp[zY,HObj.er_var,AV.erk,AV.erks,h1,h2]
theorem W3 (l:List (Txt × Txt)):(wrO l).er=wrO l:=by
 simp[wrO,HObj.er_map,wrE,AV.er,Function.comp_def]
theorem PV (p:Txt):∀l:List (Txt × Txt),yK (.s p) (wrE l)=(l.find? fun x=>decide (x.1=p)).map fun x=>.s x.2
 | []=>rfl
 | x::l=>by
  have ih:=PV p l
  simp only[wrE,List.map_cons,yK,AV.s.injEq,List.find?_cons]at ih |-
  by_cases h:x.1=p
  ·simp[h]
  ·simp only[h,if_false,decide_false,Bool.false_eq_true];exact ih
theorem zex {p:Txt} {l:List (Txt × Txt)}:p∈l.map (·.1)->∃x,l.find? (fun x=>decide (x.1=p))=some x:=by
 intro h
 obtain⟨x,h1,h2⟩:=List.mem_map.1 h
 cases hf:l.find? fun x=>decide (x.1=p)with
 | none=>have:=List.find?_eq_none.1 hf x h1;simp[h2]at this
 | some y=>exact⟨y,rfl⟩
theorem zfU {p:Txt} {l:List (Txt × Txt)} (h:p∉l.map (·.1)):l.find? (fun x=>decide (x.1=p))=none:=by
 refine List.find?_eq_none.2 fun x hx=>?_
 simp only[decide_eq_true_eq]
 exact fun e=>h (List.mem_map.2 ⟨x,hx,e⟩)
theorem ziI (p d:Txt):∀l:List (Txt × Txt),p∉l.map (·.1)->WG (.s p) (.s d) (wrE l)=wrE (l++[(p,d)])
 | [],_=>rfl
 | x::l,h=>by
  simp only[List.map_cons,List.mem_cons,not_or]at h
  have ih:=ziI p d l h.2
  have hx:¬x.1=p:=fun e=>h.1 e.symm
  simp only[wrE,List.map_cons,WG,List.cons_append,AV.s.injEq,hx,if_false]at ih |-
  rw[ih]
theorem PR (B:Nat) (e:Int) (R:Nat) (outs:List Txt) (mf:AV) (W:Nat) (rd:AV) (asks:Txt) (over:Bool) (why:Int) (h1:mf.erk=mf) (h2:rd.erk=rd) :
  q7 Tryz.prog 85 [.av .ptr (.ptr B VY []),.av (.int .i64) (.i .i64 e)] [(B,zY R outs mf W rd asks over why)] fun r H'=>r=.tup []/\H'=[(B,zY R outs mf W rd asks true e)]:=by
 refine zov Tryz.func85 cf0 fun imm0 w0=>?_
 simp (disch:=omega) [zz,zY]
 simp (disch:=omega) [zz,Tryz.f85,h1,h2]
def zca (outs ins asks:List Txt) (p:Txt):Bool:=!decide (p∈outs)&&(decide (p∈ins)||asks.any fun a=>vP a p)
theorem zie (b:Nat) (p x:Txt) (hp:p.length<=1900000) (hx:x.length<=1900000):q7 Tryz.prog 114 [.av .str (.s x),.av .ptr (.ptr b .str [])] [(b,zE p)] fun r H'=>r=.av .bool (.b (vP x p))/\H'=[(b,zE p)]:=by
 refine zov Tryz.func114 cf0 fun imm0 w0=>?_
 simp (disch:=omega) [zz,zE]
 refine zcv (zoI x p hx hp) ?_
 simp (disch:=omega) [zz,Tryz.f114]
noncomputable def xG (bo bi ba:Nat) (outs ins asks:List Txt):q8:=[(bo,xK outs),(bi,xK ins),(ba,xK asks)]
theorem zoH (l:List Txt):(xK l).er=xK l:=by simp[xK,HObj.er_var,AV.erk]
theorem pH (bo bi ba:Nat) (outs ins asks:List Txt):(xG bo bi ba outs ins asks).er=xG bo bi ba outs ins asks:=by
 simp only[xG,q8.er_cons,q8.er_nil,zoH]
abbrev ztf:Cfg:=⟨fun n=>n==4,fun _=>false⟩
structure zsR (outs ins asks:List Txt):Prop where
 o:outs.length<=2000000
 i:ins.length<=2000000
 a:asks.length<=2000000
 e:∀x∈asks,x.length<=1900000
theorem zhC (bo bi ba:Nat) (outs ins asks:List Txt) (hb:zsR outs ins asks) (p:Txt) (hp:p.length<=1900000) :
  q7 Tryz.prog 113 [.av .str (.s p),.av .ptr (.ptr bo TsT []),.av .ptr (.ptr bi TsT []),.av .ptr (.ptr ba TsT [])] (xG bo bi ba outs ins asks) fun r H'=>r=.av .bool (.b (zca outs ins asks p))/\H'=xG bo bi ba outs ins asks:=by
 obtain⟨ho,hi,ha,he⟩:=hb
 refine q7.nodup fun hnd=>?_
 simp[xG,q8.keys]at hnd
 obtain⟨⟨n1,n2⟩,n3⟩:=hnd
 have sy:∀ {a b:Nat},¬a=b->¬b=a:=fun h e=>h e.symm
 have n1':=sy n1;have n2':=sy n2;have n3':=sy n3
 refine q7.sub (R:=fun r H'=>r=.av .bool (.b (zca outs ins asks p))/\∃H2,Ab.HSub H2 H'/\H2=xG bo bi ba outs ins asks) ?_ fun y H' ⟨h1,H2,h2,h3⟩ _=>⟨H2,h2,h1,h3⟩
 refine zov Tryz.func113 ztf fun imm0 w0=>?_
 simp (disch:=omega) [zz]
 intro b4 m1
 rw[show xG bo bi ba outs ins asks=[(bo,.var TsT (.sl .no (strs outs))),(bi,.var TsT (.sl .no (strs ins))),(ba,.var TsT (.sl .no (strs asks)))] from rfl]at m1 |-
 simp[q8.keys]at m1
 obtain⟨m1,m2,m3⟩:=m1
 have m1':=sy m1;have m2':=sy m2;have m3':=sy m3
 simp (disch:=omega) [zz,n1,n1',n2,n2',n3,n3',m1,m1',m2,m2',m3,m3']
 refine zcv (JJ outs p (by omega)) ?_
 by_cases h1:p∈outs
 ·simp (disch:=omega) [zz,h1,Tryz.f113,zca]
  exact HSub.of_sub ((List.Sublist.refl _).cons _)
 simp (disch:=omega) [zz,h1,n1,n1',n2,n2',n3,n3',m1,m1',m2,m2',m3,m3']
 refine zcv (JJ ins p (by omega)) ?_
 by_cases h2:p∈ins
 ·simp (disch:=omega) [zz,h2,Tryz.f113,zca,h1]
  exact HSub.of_sub ((List.Sublist.refl _).cons _)
 simp (disch:=omega) [zz,h2,n1,n1',n2,n2',n3,n3',m1,m1',m2,m2',m3,m3']
 have hany:=VB (fun a=>vP a p) (.fn 114 [.ptr b4 .str []]) [(b4,zE p)] asks ⟨rfl,rfl,fun x hx=>⟨_,rfl,by simp,by simpa[TV.er,AV.er]using zie b4 p x hp (he x hx)⟩⟩ (by omega)
 obtain⟨q,hq⟩:∃q,q=asks.any fun a=>vP a p:=⟨_,rfl⟩
 rw[<-hq]at hany
 refine qD (R:=fun r' H'=>r'=.av .bool (.b q)/\H'=[(b4,zE p)]) [(b4,zE p)] (xG bo bi ba outs ins asks) (by simp[xG,zE,xK]) rfl (by simp[qI]) (by simp) ?_ ?_
 ·simpa[TV.er,AV.er,q8.er_cons,zE,HObj.er_var,AV.erk]using hany
 rintro r' H' ⟨rfl,rfl⟩ _
 refine⟨_,HSub.refl _,?_⟩
 have hm:zca outs ins asks p=q:=by simp[zca,h1,h2,hq]
 have hme:=pH bo bi ba outs ins asks
 simp (disch:=omega) [zz,hm,hme,Tryz.f113]
 exact HSub.of_sub ((List.Sublist.refl _).cons _)
theorem zoG (B:Nat) (p d:Txt) (R:Nat) (outs:List Txt) (ho:outs.length<=2000000) (mf:AV) (W:Nat) (rd:AV) (asks:Txt) (over:Bool) (why:Int) (wrote:List (Txt × Txt)) (h1:mf.erk=mf) (h2:rd.erk=rd) :
  q7 Tryz.prog 117 [.av .ptr (.ptr B VY []),.av .str (.s p),.av .str (.s d)] [(B,zY R outs mf W rd asks over why),(W,wrO wrote)] fun r H'=>r=.tup []/\
   H'=if p∈wrote.map (·.1)\/p∉outs then [(B,zY R outs mf W rd asks true 14),(W,wrO wrote)] else [(B,zY R outs mf W rd asks over why),(W,wrO (wrote++[(p,d)]))]:=by
 have hw:=W3 wrote
 have hw2:=W3 (wrote++[(p,d)])
 have hbe:=fun e=>KC (R:=R) (outs:=outs) (W:=W) (asks:=asks) (over:=true) (why:=e) h1 h2
 have hbe2:=KC (R:=R) (outs:=outs) (W:=W) (asks:=asks) (over:=over) (why:=why) h1 h2
 have hmf:=PV p wrote
 refine q7.nodup fun hnd=>?_
 simp[q8.keys]at hnd
 have hnd':¬W=B:=fun e=>hnd e.symm
 have hfl:=PR B 14 R outs mf W rd asks over why h1 h2
 refine zov Tryz.func117 cf0 fun imm0 w0=>?_
 by_cases hp:p∈wrote.map (·.1)
 ·obtain⟨x,hx⟩:=zex hp
  rw[hx]at hmf
  rw[if_pos (.inl hp)]
  simp (disch:=omega) [zz,zY,wrO,hnd,hnd',hmf]
  refine qD (R:=fun r H'=>r=.tup []/\H'=[(B,zY R outs mf W rd asks true 14)]) [(B,zY R outs mf W rd asks over why)] [(W,wrO wrote)] (by simp[zY,wrO]) rfl (by simp[qI]) (by simp) ?_ ?_
  ·rw[q8.er_cons,hbe2]
   refine q7.args hfl (by simp[qM,coC,TV.er,AV.er])
  rintro r H' ⟨rfl,rfl⟩ _
  refine⟨_,HSub.refl _,?_⟩
  simp (disch:=omega) [zz,Tryz.f117,hbe,hw]
  simp[zY,wrO]
 have hfn:=zfU hp
 rw[hfn]at hmf
 by_cases hpo:p∈outs
 ·rw[if_neg (by simp only[not_or,not_not];exact⟨hp,hpo⟩)]
  have hmp:=ziI p d wrote hp
  simp (disch:=omega) [zz,zY,wrO,hnd,hnd',hmf]
  refine zcv (JJ outs p (by omega)) ?_
  simp (disch:=omega) [zz,hpo,hnd,hnd',hmf,hmp]
  simp only[zY]at hbe2
  simp only[wrO]at hw2
  simp (disch:=omega) [zz,Tryz.f117,hbe2,hw2,h1,h2]
  simpa[HObj.er_map]using hw2
 ·rw[if_pos (.inr hpo)]
  simp (disch:=omega) [zz,zY,wrO,hnd,hnd',hmf]
  refine zcv (JJ outs p (by omega)) ?_
  simp (disch:=omega) [zz,hpo,hnd,hnd',hmf]
  refine qD (R:=fun r H'=>r=.tup []/\H'=[(B,zY R outs mf W rd asks true 14)]) [(B,zY R outs mf W rd asks over why)] [(W,wrO wrote)] (by simp[zY,wrO]) rfl (by simp[qI]) (by simp) ?_ ?_
  ·rw[q8.er_cons,hbe2]
   refine q7.args hfl (by simp[qM,coC,TV.er,AV.er])
  rintro r H' ⟨rfl,rfl⟩ _
  refine⟨_,HSub.refl _,?_⟩
  simp (disch:=omega) [zz,Tryz.f117,hbe,hw]
  simp[zY,wrO]
noncomputable def QJ (B:Nat):HObj:=.var .ptr (.ptr B VY [])
theorem zlh (bb B:Nat) (x:Txt) (R:Nat) (outs:List Txt) (mf:AV) (W:Nat) (rd:AV) (asks:Txt) (over:Bool) (why:Int) (wrote:List (Txt × Txt)) (h1:mf.erk=mf) (h2:rd.erk=rd) :
  q7 Tryz.prog 118 [.av .str (.s x),.av .ptr (.ptr bb .ptr [])] [(bb,QJ B),(B,zY R outs mf W rd asks over why),(W,wrO wrote)] fun r H'=>r=.av .bool (.b (decide (x∉wrote.map (·.1))))/\
   H'=[(bb,QJ B),(B,zY R outs mf W rd asks over why),(W,wrO wrote)]:=by
 have hw:=W3 wrote
 have hbe2:=KC (R:=R) (outs:=outs) (W:=W) (asks:=asks) (over:=over) (why:=why) h1 h2
 have hmf:=PV x wrote
 refine q7.nodup fun hnd=>?_
 simp[q8.keys]at hnd
 obtain⟨⟨n1,n2⟩,n3⟩:=hnd
 have n1':¬B=bb:=fun e=>n1 e.symm
 have n2':¬W=bb:=fun e=>n2 e.symm
 have n3':¬W=B:=fun e=>n3 e.symm
 simp only[zY]at hbe2
 simp only[wrO]at hw
 by_cases hp:x∈wrote.map (·.1)
 ·obtain⟨y,hy⟩:=zex hp
  rw[hy]at hmf
  have hd:decide (x∉wrote.map (·.1))=false:=by simpa using hp
  rw[hd]
  refine zov Tryz.func118 cf0 fun imm0 w0=>?_
  simp (disch:=omega) [zz,QJ,zY,wrO,n1,n1',n2,n2',n3,n3',hmf]
  simp (disch:=omega) [zz,Tryz.f118,h1,h2]
  simpa[HObj.er_map]using hw
 ·have hfn:=zfU hp
  rw[hfn]at hmf
  have hd:decide (x∉wrote.map (·.1))=true:=by simpa using hp
  rw[hd]
  refine zov Tryz.func118 cf0 fun imm0 w0=>?_
  simp (disch:=omega) [zz,QJ,zY,wrO,n1,n1',n2,n2',n3,n3',hmf]
  simp (disch:=omega) [zz,Tryz.f118,h1,h2]
  simpa[HObj.er_map]using hw
def zsu (c:CmdV):Prop:=(c.words.getD 0 []=qW\/c.words.getD 0 []=jD\/c.words.getD 0 []=zC)->jQ (c.words.getD 1 [])=true
def zpr:TdV->Prop
 | .cmd c=>zsu c
 | _=>True
structure ZQ (r:qN):Prop where
 td:∀t∈r.todo,zpr t
 ak:r.waits=true->jQ r.asks=true
structure KQ (r r':qN):Prop where
 td:∀t∈r'.todo,t∈r.todo\/zpr t
 ak:(r'.waits=r.waits/\r'.asks=r.asks)\/jQ r'.asks=true
theorem KQ.ok {r r':qN} (h:KQ r r') (ho:ZQ r):ZQ r' :=
 ⟨fun t ht=>(h.td t ht).elim (ho.td t) id,fun hw=>h.ak.elim (fun e=>by rw[e.2];exact ho.ak (e.1▸hw)) id⟩
theorem KQ.same {r r':qN} (h1:r'.todo=r.todo) (h2:r'.waits=r.waits) (h3:r'.asks=r.asks):KQ r r':=⟨fun t ht=>.inl (h1▸ht),.inl ⟨h2,h3⟩⟩
theorem KQ.fail (e:Int) (r:qN):KQ r (wY e r):=.same rfl rfl rfl
theorem KQ.add (s:Txt) (r:qN):KQ r (yS s r):=by unfold yS;split<;>exact .same rfl rfl rfl
theorem KQ.lines (l:List Txt) (r:qN):KQ r (wB l r):=by
 have h:=KQ.add (l.flatMap (·++[10])) { r with buf:=[] }
 exact⟨h.td,h.ak⟩
theorem KQ.co (k:CoV) (x:KnV) (r:qN):KQ r (coR k x r):=by
 cases hi:x.is with
 | false =>
  cases k with
  | tr=>simp[coR,hi,same]
  | there t=>grind [coR,fail]
 | true =>
  cases k with
  | tr=>grind [coR,add]
  | there t=>cases t with
   | add=>grind [coR,add,thR]
   | scan w =>
    rw[show coR (.there (.scan w)) x r={ r with todo:=r.todo++(qZ x.data).reverse.map fun s=>.line s w } by simp[coR,hi,thR]]
    refine⟨fun t ht=>?_,.inl ⟨rfl,rfl⟩⟩
    rcases List.mem_append.1 ht with ht|ht
    ·exact .inl ht
    ·obtain⟨s,_,rfl⟩:=List.mem_map.1 ht
     exact .inr trivial
theorem KQ.ask (p:Txt) (k:CoV) (r:qN) (hp:jQ p=true):KQ r (QT p k r):=by
 unfold QT
 split
 ·simp[co]
 ·split
  ·simp[fail]
  ·refine⟨fun t ht=>?_,.inr hp⟩
   rcases List.mem_append.1 ht with ht|ht
   ·exact .inl ht
   ·rw[List.mem_singleton.1 ht];exact .inr trivial
theorem KQ.scan (p w:Txt) (r:qN) (hp:jQ p=true):KQ r (JL p w r):=by
 have h:=KQ.ask p (.there (.scan w)) { r with seen:=r.seen++[p] } hp
 exact⟨h.td,h.ak⟩
theorem KQ.line (s w:Txt) (r:qN):KQ r (J1 s w r):=by
 unfold J1
 split
 ·split
  ·simp[add]
  ·rename_i h
   split
   ·simp[same]
   simp_all[scan]
 simp[add]
theorem KQ.turn (n a:Txt) (r:qN):KQ r (wV n a r):=by
 unfold wV
 split
 ·simp[lines]
 split
 ·simp[lines]
 split
 ·simp[same]
 split
 ·simp[same]
 split
 ·simp[lines]
 simp[same]
theorem KQ.cmd (c:CmdV) (r:qN) (hc:zsu c):KQ r (doR c r):=by
 unfold doR
 simp only
 split
 ·rename_i h;exact .ask _ _ _ (hc (.inl h))
 split
 ·rename_i h;exact .ask _ _ _ (hc (.inr (.inl h)))
 split
 ·rename_i h
  have h:=KQ.scan (c.words.getD 1 []) (c.words.getD 2 []) { r with seen:=[] } (hc (.inr (.inr h)))
  exact⟨h.td,h.ak⟩
 split
 ·simp[add]
 split
 ·grind [add,fail]
 split
 ·simp[same]
 split
 ·split
  ·simp[same]
  simp[fail]
 grind [fail,turn]
theorem ZQ.step {r:qN} (h:ZQ r):ZQ (Z1 r):=by
 rcases List.eq_nil_or_concat r.todo with ht|⟨l,t,ht⟩
 ·rw[YP ht];exact⟨h.td,h.ak⟩
 ·rw[List.concat_eq_append]at ht
  rw[YX ht]
  have h0:ZQ { r with todo:=l }:=⟨fun x hx=>h.td x (by simp_all),h.ak⟩
  have hc:zpr t:=h.td t (by rw[ht];simp)
  cases t with
  | cmd c=>exact(KQ.cmd c _ hc).ok h0
  | line s w=>exact(KQ.line s w _).ok h0
  | ans k p=>exact(KQ.co k _ _).ok h0
theorem ZQ.runN:∀(n:Nat) {r r':qN},runN n r=some r'->ZQ r->ZQ r'
 | 0,r,r',h,_=>by cases h
 | n+1,r,r',h,hg=>by
  rw[Go.Proofs.YtfkcpballfhddaaGreatDoor.runN]at h
  by_cases hs:w8 r=true
  ·simp_all
  ·rw[if_neg hs]at h
   exact ZQ.runN n h hg.step
theorem ZQ.settle {r:qN} (hi:W4 r) (h:ZQ r):ZQ (kZ r):=ZQ.runN _ (yZ hi).1 h
theorem ZQ.next {r:qN} (hi:W4 r) (h:ZQ r):ZQ (wI r).2/\((wI r).2.waits=true->jQ (wI r).2.asks=true):=by
 have hs:=h.settle hi
 have:ZQ (wI r).2:=by
  unfold wI
  simp only
  split
  ·exact hs
  ·split
   ·exact⟨hs.td,hs.ak⟩
   ·exact hs
 exact⟨this,this.ak⟩
theorem ZQ.give {r:qN} (hi:W4 r) (h:ZQ r) (k:KnV):ZQ (J7 k r).2:=by
 have hs:=h.settle hi
 unfold J7
 simp only
 split
 ·exact hs
 split
 ·exact hs
 split
 ·exact hs
 ·exact⟨hs.td,fun e=>by cases e⟩
theorem zcP:∀l:List UInt8,l.length+1=((qE 47 l).map fun x=>x.length+1).sum
 | []=>rfl
 | b::l=>by
  have ih:=zcP l
  unfold qE
  split
  ·simp only[List.length_cons,List.map_cons,List.length_nil,List.sum_cons];omega
  ·cases hs:qE 47 l with
   | nil=>exact absurd hs (yU _ _)
   | cons y q =>
    rw[hs]at ih
    simp only[List.length_cons,List.map_cons,List.sum_cons]at ih |-;omega
theorem zfb {p:List UInt8} (h:jQ p=true):p.length<=1040:=by
 simp only[jQ,Bool.and_eq_true,decide_eq_true_eq,List.all_eq_true]at h
 have h1:=zcP p
 have h2:∀l:List (List UInt8),(∀x∈l,QM x=true)->(l.map fun x=>x.length+1).sum<=l.length*65:=by
  intro l
  induction l with
  | nil=>simp
  | cons x r ih =>
   intro hx
   have h3:=hx x (by simp)
   have h4:x.length<=64:=by
    simp_all[QM]
   grind
 grind
structure ZN (b:j9):Prop where
 good:wF b.run
 ask:ZQ b.run
 ov:OV b.run
 no2:b.run.over.kind≠2
theorem ZN.at_ {b:j9} (h:ZN b):AtR b.run.env (kO [] b.run) b.run.known [] b.run:=⟨h.good.inv,h.ov,rfl,rfl,fun _ _=>.refl _⟩
theorem ZN.round {b:j9} (h:ZN b):(wF (wI b.run).2/\ZQ (wI b.run).2/\OV (wI b.run).2/\(wI b.run).2.over.kind≠2)/\((wI b.run).1.kind=1->(wI b.run).1.path.length<=1040):=by
 have h1:=h.ask.next h.good.inv
 rcases h.at_.next h.no2 with⟨g1,g2,g3,g4⟩|hs
 ·exact⟨⟨h.good.next,h1.1,g2.ov,by omega⟩,fun e=>by omega⟩
 ·refine⟨⟨h.good.next,h1.1,hs.at_.ov,hs.no2⟩,fun e=>?_⟩
  have hw:=hs.waits.1 e
  rw[hs.asks hw]
  simp_all[zfb]
theorem ZN.roundB {b:j9} (h:ZN b):ZN (roundB b).1:=by
 obtain⟨h1,h2,h3,h4⟩:=h.round.1
 have hr:(Go.Proofs.YtfkcpballfhddaaGreatDoor.roundB b).1.run=(wI b.run).2:=by
  grind [Go.Proofs.YtfkcpballfhddaaGreatDoor.roundB,Y2,Q0]
 exact⟨by simp_all,by simp_all,by simp_all,by simp_all⟩
theorem ZN.goN:∀(n:Nat) {b b':j9},goN n b=some b'->ZN b->ZN b'
 | 0,b,b',h,_=>by cases h
 | n+1,b,b',h,hg=>by
  rw[Go.Proofs.YtfkcpballfhddaaGreatDoor.goN]at h
  by_cases ho:b.over=true
  ·simp_all
  rw[if_neg ho]at h
  by_cases h2:(Go.Proofs.YtfkcpballfhddaaGreatDoor.roundB b).2=true
  ·rw[if_pos h2]at h;cases h;exact hg.roundB
  ·rw[if_neg h2]at h
   exact ZN.goN n h hg.roundB
structure ztH (outs':List Txt) (may':Txt->Bool) (b:j9):Prop where
 o:∀p,p∈b.outs<->p∈outs'
 m:∀p,b.may p=may' p
theorem zf2 (b:j9):(roundB b).1.outs=b.outs/\(roundB b).1.may=b.may/\(roundB b).1.reads=b.reads:=by
 unfold roundB Y2 Q0
 grind
theorem zgo:∀(n:Nat) {b b':j9},goN n b=some b'->b'.outs=b.outs/\b'.may=b.may/\b'.reads=b.reads
 | 0,b,b',h=>by cases h
 | n+1,b,b',h=>by
  have hk:=zf2 b
  rw[goN]at h
  by_cases ho:b.over=true
  ·simp_all
  rw[if_neg ho]at h
  by_cases h2:(roundB b).2=true
  ·simp_all
  ·rw[if_neg h2]at h
   obtain⟨g1,g2,g3⟩:=zgo n h
   exact⟨g1.trans hk.1,g2.trans hk.2.1,g3.trans hk.2.2⟩
theorem zhq (b:j9):(ZS b).outs=b.outs/\(ZS b).may=b.may/\(ZS b).reads=b.reads:=by
 unfold ZS
 cases h:goN (ccR b.run+2) b with
 | none=>simp
 | some b'=>exact zgo _ h
def jN (bo bi ba:Nat):AV:=.fn 113 [.ptr bo TsT [],.ptr bi TsT [],.ptr ba TsT []]
noncomputable def wJ (cap:Nat) (l:List xE) (j:List AV):HObj:=.var (.arr cap 53) (.agg (l.map zG++j))
def zaS (l:List xE) (rd:AV) (RD:q8):Prop :=
 (l=[]/\rd=.nsl/\RD=[])\/(∃T cap j,JK j/\rd=.msl T 53 0 l.length cap/\l.length+j.length=cap/\RD=[(T,wJ cap l j)])
theorem GR (l:List xE):AV.erks (l.map zG)=l.map zG:=by
 rw[AV.erks_eq,List.map_map]
 refine List.map_congr_left fun x _=>?_
 exact kX _ (zbO x)
theorem zaS.er {l:List xE} {rd:AV} {RD:q8} (h:zaS l rd RD):RD.er=RD/\rd.erk=rd:=by
 rcases h with⟨_,rfl,rfl⟩|⟨T,cap,j,hj,rfl,_,rfl⟩
 ·exact⟨rfl,rfl⟩
 ·refine⟨?_,rfl⟩
  simp only[q8.er_cons,q8.er_nil,wJ,HObj.er_var,AV.erk,VU,GR]
  rw[show AV.erks j=j from hj]
structure KS where
 R:Nat
 HR:q8
 W:Nat
 bo:Nat
 bi:Nat
 ba:Nat
 ins:List Txt
 ask:List Txt
 rd:AV
 RD:q8
noncomputable def KS.M (q:KS) (b:j9):q8:=xG q.bo q.bi q.ba b.outs q.ins q.ask++q.RD
noncomputable def KS.core (q:KS) (B:Nat) (b:j9):q8:=(B,zY q.R b.outs (jN q.bo q.bi q.ba) q.W q.rd b.asks b.over b.why)::(q.W,wrO b.wrote)::(q.M b++q.HR)
structure KS.OK (q:KS) (b:j9):Prop where
 run:z8 q.R b.run q.HR
 reads:zaS b.reads q.rd q.RD
 may:b.may=zca b.outs q.ins q.ask
 mb:zsR b.outs q.ins q.ask
def KP (B:Nat) (b:j9) (H:q8):Prop:=∃q:KS,q.OK b/\H=q.core B b
theorem KS.OK.er {q:KS} {b:j9} (h:q.OK b) (B:Nat):(q.core B b).er=q.core B b/\(q.M b).er=q.M b/\q.HR.er=q.HR/\q.rd.erk=q.rd:=by
 obtain⟨h1,h2⟩:=h.reads.er
 have h3:=h.run.er
 have h4:(q.M b).er=q.M b:=by simp only[KS.M,q8.er_app,pH,h1]
 refine⟨?_,h4,h3,h2⟩
 simp only[KS.core,q8.er_cons,q8.er_app,h3,h4,W3,KC (mf:=jN q.bo q.bi q.ba) rfl h2]
theorem zkq (b:j9) (d:DoV) (r':qN) (h:wI b.run=(d,r')):roundB b =
  if d.kind=1 then(if b.may d.path=true then({ b with run:=r',asks:=d.path },true) else(Q0 13 { b with run:=r' },false))
  else if d.kind=2 then(Y2 d.path d.data { b with run:=r' },false)
  else if d.kind=3 then(if D4 b=true then(Q0 14 { b with run:=r' },false) else({ b with run:=r',over:=true },false))
  else(Q0 d.why { b with run:=r' },false):=by
 unfold roundB
 rw[h]
abbrev zrK:Cfg:=⟨fun n=>n==1,fun _=>false⟩
theorem xQ (B:Nat) {b bf:j9} {H:q8} (hH:KP B b H) (hg:ZN b) (n:Nat) (hn:goN n b=some bf) :
  q7 Tryz.prog 79 [.av .ptr (.ptr B VY [])] H fun y H'=>y=.tup []/\KP B bf H':=by
 refine q7.sub (R:=fun y H'=>y=.tup []/\∃H2,Ab.HSub H2 H'/\KP B bf H2) ?_ fun y H' ⟨h1,H2,h2,h3⟩ _=>⟨H2,h2,h1,h3⟩
 refine zov Tryz.func79 zrK fun imm0 w0=>?_
 simp (disch:=omega) [zz]
 intro b1 m1
 refine AT.loop' (α:=Nat × j9 × q8) (fun x=>St.of [(1,.av .ptr (.ptr b1 .ptr []))] [] (fun _=>0) ((b1,QJ B)::x.2.2))
  (fun x=>goN x.1 x.2.1=some bf/\ZN x.2.1/\KP B x.2.1 x.2.2) (fun x=>x.1) (n,b,H) ?_ ?_ ?_
 ·apply Le.of<;>simp[zA,qF,QJ]
 ·exact⟨hn,hg,hH⟩
 clear hn hg hH m1 b
 rintro⟨n,b,H1⟩ ⟨hn,hg,hq0⟩ KL hN hE
 simp only at hn hg hq0 hN |-
 obtain⟨q,hq,rfl⟩:=hq0
 cases n with
 | zero=>cases hn
 | succ n =>
 rw[goN]at hn
 obtain⟨hce,hMe,hHe,hre⟩:=hq.er B
 refine zqz fun hnd=>?_
 simp[KS.core,q8.keys]at hnd
 obtain⟨⟨n1,n2,n3⟩,⟨n4,n5⟩,n6,n7⟩:=hnd
 have sy:∀ {a b:Nat},¬a=b->¬b=a:=fun h e=>h e.symm
 have n1':=sy n1;have n2':=sy n2;have n4':=sy n4
 by_cases ho:b.over=true
 ·rw[if_pos ho]at hn
  have hbf:=Option.some.inj hn
  subst hbf
  have hcc:q.core B b=(B,zY q.R b.outs (jN q.bo q.bi q.ba) q.W q.rd b.asks b.over b.why)::(q.W,wrO b.wrote)::(q.M b++q.HR):=rfl
  obtain⟨M,hM⟩:∃M:q8,M=(q.W,wrO b.wrote)::(q.M b++q.HR):=⟨_,rfl⟩
  rw[<-hM]at hcc
  have hMM:M.er=M:=by
   rw[hM];simp only[q8.er_cons,q8.er_app,hMe,hHe,W3]
  rw[hcc]
  refine zrd zrK ?_
  simp (disch:=omega) [zz,QJ,zY,n1,n1',ho]
  refine hE _ _ (by simp) ?_
  simp (disch:=omega) [zz,hMM,hre,jN,Tryz.f79]
  refine⟨q.core B b,?_,q,hq,rfl⟩
  rw[hcc]
  simp only[zY,ho,jN]
  exact HSub.of_sub ((List.Sublist.refl _).cons _)
 rw[if_neg ho]at hn
 have ho':b.over=false:=by simpa using ho
 obtain⟨⟨d,r'⟩,hdr⟩:∃x,wI b.run=x:=⟨_,rfl⟩
 have hnx:=zqb q.R hq.run hg.good
 have hrd:=hg.round
 have hgr:=hg.roundB
 rw[hdr]at hnx hrd
 simp only at hnx hrd
 have hrb:=zkq b d r' hdr
 obtain⟨M,hM⟩:∃M,M=q.M b:=⟨_,rfl⟩
 have hcc:q.core B b=(B,zY q.R b.outs (jN q.bo q.bi q.ba) q.W q.rd b.asks b.over b.why)::(q.W,wrO b.wrote)::(M++q.HR):=by rw[hM];rfl
 rw[hcc]
 rw[<-hM]at hMe
 refine zrd zrK ?_
 simp (disch:=omega) [zz,QJ,zY,n1,n1',ho']
 refine qD (R:=fun y H'=>y=.av DoT (jX d)/\z8 q.R r' H') q.HR ((b1,QJ B)::(B,zY q.R b.outs (jN q.bo q.bi q.ba) q.W q.rd b.asks b.over b.why)::(q.W,wrO b.wrote)::M) ?_ rfl (by simp[qI]) (by simp) ?_ ?_
 ·refine List.perm_iff_count.2 fun a=>?_
  simp only[QJ,zY,ho',List.count_append,List.count_cons];omega
 ·rw[hHe]
  simpa[TV.er,AV.er]using hnx
 rintro y H' ⟨rfl,hrun'⟩ _
 refine⟨(b1,QJ B)::(B,zY q.R b.outs (jN q.bo q.bi q.ba) q.W q.rd b.asks b.over b.why)::(q.W,wrO b.wrote)::(M++H'),HSub.of_perm ?_,?_⟩
 ·refine List.perm_iff_count.2 fun a=>?_
  simp only[List.count_append,List.count_cons];omega
 obtain⟨q',hq'⟩:∃q':KS,q'={ q with HR:=H' }:=⟨_,rfl⟩
 have hqa:∀p,q'.OK { b with run:=r',asks:=p }:=fun p=>by
  rw[hq'];exact⟨hrun',hq.reads,hq.may,hq.mb⟩
 have hca:∀p,q'.core B { b with run:=r',asks:=p }=(B,zY q.R b.outs (jN q.bo q.bi q.ba) q.W q.rd p b.over b.why)::(q.W,wrO b.wrote)::(M++H'):=fun p=>by
  rw[hq',hM];rfl
 have hqf:∀e,q'.OK (Q0 e { b with run:=r' }):=fun e=>by
  rw[hq'];exact⟨hrun',hq.reads,hq.may,hq.mb⟩
 have hcf:∀e,q'.core B (Q0 e { b with run:=r' })=(B,zY q.R b.outs (jN q.bo q.bi q.ba) q.W q.rd b.asks true e)::(q.W,wrO b.wrote)::(M++H'):=fun e=>by
  rw[hq',hM];rfl
 have hqo:q'.OK { b with run:=r',over:=true }:=by
  rw[hq'];exact⟨hrun',hq.reads,hq.may,hq.mb⟩
 have hco:q'.core B { b with run:=r',over:=true }=(B,zY q.R b.outs (jN q.bo q.bi q.ba) q.W q.rd b.asks true b.why)::(q.W,wrO b.wrote)::(M++H'):=by
  rw[hq',hM];rfl
 have hHe':=hrun'.er
 by_cases h1:d.kind=1
 ·-- it asks
  have hpl:=hrd.2 h1
  have hmay:=zhC q.bo q.bi q.ba b.outs q.ins q.ask hq.mb d.path (by omega)
  rw[<-hq.may]at hmay
  obtain⟨m,hm⟩:∃m,m=b.may d.path:=⟨_,rfl⟩
  rw[<-hm]at hmay
  have hMH:M=xG q.bo q.bi q.ba b.outs q.ins q.ask++q.RD:=hM
  simp (disch:=omega) [zz,QJ,zY,jX,h1,n1,n1',jN]
  (repeat with_reducible refine om ?_)
  refine GW (r:=.av .bool (.b m)) (bs:=[.av .str (.s d.path),.av .ptr (.ptr q.bo TsT []),.av .ptr (.ptr q.bi TsT []),.av .ptr (.ptr q.ba TsT [])]) (xG q.bo q.bi q.ba b.outs q.ins q.ask) ((b1,QJ B)::(B,zY q.R b.outs (jN q.bo q.bi q.ba) q.W q.rd b.asks b.over b.why)::(q.W,wrO b.wrote)::(q.RD++H')) ?_ (by rw[pH];exact hmay) rfl (by simp[qI]) (by simp) (by simp[qM,TV.er,AV.er]) ?_
  ·rw[hMH]
   refine List.perm_iff_count.2 fun a=>?_
   simp only[QJ,zY,jN,ho',List.count_append,List.count_cons];omega
  cases m with
  | true =>
   have e:roundB b=({ b with run:=r',asks:=d.path },true):=by rw[hrb,if_pos h1,if_pos hm.symm]
   rw[e]at hn
   simp only[if_true]at hn
   have hbf:=Option.some.inj hn
   subst hbf
   simp (disch:=omega) [zz,QJ,zY,h1,n1,n1',jN]
   refine hE _ _ (by simp) ?_
   simp (disch:=omega) [zz,hre,hMe,hHe',W3,Tryz.f79]
   refine⟨q'.core B { b with run:=r',asks:=d.path },?_,q',hqa _,rfl⟩
   rw[hca]
   simp only[zY,jN,ho']
   exact HSub.of_sub ((List.Sublist.refl _).cons _)
  | false =>
   have e:roundB b=(Q0 13 { b with run:=r' },false):=by rw[hrb,if_pos h1,if_neg (by rw[<-hm];decide)]
   rw[e]at hn hgr
   simp only[Bool.false_eq_true,if_false]at hn hgr
   simp (disch:=omega) [zz,QJ,zY,h1,n1,n1',jN]
   refine qD (R:=fun r H'=>r=.tup []/\H'=[(B,zY q.R b.outs (jN q.bo q.bi q.ba) q.W q.rd b.asks true 13)]) [(B,zY q.R b.outs (jN q.bo q.bi q.ba) q.W q.rd b.asks b.over b.why)] ((b1,QJ B)::(q.W,wrO b.wrote)::(M++H')) ?_ rfl (by simp[qI]) (by simp) ?_ ?_
   ·refine List.perm_iff_count.2 fun a=>?_
    simp only[QJ,zY,jN,ho',List.count_append,List.count_cons,List.count_nil];omega
   ·rw[q8.er_cons,KC rfl hre]
    refine q7.args (PR B (13) q.R b.outs (jN q.bo q.bi q.ba) q.W q.rd b.asks b.over b.why rfl hre) (by simp[qM,coC,TV.er,AV.er])
   rintro r H9 ⟨rfl,rfl⟩ _
   refine⟨(b1,QJ B)::(B,zY q.R b.outs (jN q.bo q.bi q.ba) q.W q.rd b.asks true 13)::(q.W,wrO b.wrote)::(M++H'),HSub.of_perm (List.Perm.swap _ _ _),?_⟩
   simp (disch:=omega) [zz]
   refine hN _ (n,Q0 (13) { b with run:=r' },q'.core B (Q0 (13) { b with run:=r' })) ?_ ⟨hn,hgr,q',hqf _,rfl⟩ (by simp only;omega)
   rw[hcf]
   refine Le.ofP ?_ ?_ ?_ ?_ (HSub.refl _)<;>simp[zA,qF]
 by_cases h2:d.kind=2
 ·-- it writes
  have hwo:=zoG B d.path d.data q.R b.outs hq.mb.o (jN q.bo q.bi q.ba) q.W q.rd b.asks b.over b.why b.wrote rfl hre
  have hw:roundB b=(Y2 d.path d.data { b with run:=r' },false):=by rw[hrb,if_neg h1,if_pos h2]
  rw[hw]at hn hgr
  simp only[Bool.false_eq_true,if_false]at hn hgr
  simp (disch:=omega) [zz,QJ,zY,jX,h1,h2,n1,n1']
  refine qD (R:=fun r H9=>r=.tup []/\H9=(if d.path∈b.wrote.map (·.1)\/d.path∉b.outs then [(B,zY q.R b.outs (jN q.bo q.bi q.ba) q.W q.rd b.asks true 14),(q.W,wrO b.wrote)] else [(B,zY q.R b.outs (jN q.bo q.bi q.ba) q.W q.rd b.asks b.over b.why),(q.W,wrO (b.wrote++[(d.path,d.data)]))])) [(B,zY q.R b.outs (jN q.bo q.bi q.ba) q.W q.rd b.asks b.over b.why),(q.W,wrO b.wrote)] ((b1,QJ B)::(M++H')) ?_ rfl (by simp[qI]) (by simp) ?_ ?_
  ·refine List.perm_iff_count.2 fun a=>?_
   simp only[QJ,zY,jN,ho',List.count_append,List.count_cons,List.count_nil];omega
  ·rw[q8.er_cons,q8.er_cons,KC rfl hre,W3]
   refine q7.args hwo (by simp[qM,coC,TV.er,AV.er])
  rintro r H9 ⟨rfl,rfl⟩ _
  by_cases hb:d.path∈b.wrote.map (·.1)\/d.path∉b.outs
  ·have e:Y2 d.path d.data { b with run:=r' }=Q0 14 { b with run:=r' }:=by unfold Y2;exact if_pos hb
   rw[e]at hn hgr
   rw[if_pos hb]
   refine⟨(b1,QJ B)::(B,zY q.R b.outs (jN q.bo q.bi q.ba) q.W q.rd b.asks true 14)::(q.W,wrO b.wrote)::(M++H'),HSub.of_perm ?_,?_⟩
   ·refine List.perm_iff_count.2 fun a=>?_
    simp only[List.count_append,List.count_cons,List.count_nil];omega
   simp (disch:=omega) [zz]
   refine hN _ (n,Q0 14 { b with run:=r' },q'.core B (Q0 14 { b with run:=r' })) ?_ ⟨hn,hgr,q',hqf _,rfl⟩ (by simp only;omega)
   rw[hcf]
   refine Le.ofP ?_ ?_ ?_ ?_ (HSub.refl _)<;>simp[zA,qF]
  ·have e:Y2 d.path d.data { b with run:=r' }={ b with run:=r',wrote:=b.wrote++[(d.path,d.data)] }:=by unfold Y2;exact if_neg hb
   rw[e]at hn hgr
   rw[if_neg hb]
   refine⟨(b1,QJ B)::(B,zY q.R b.outs (jN q.bo q.bi q.ba) q.W q.rd b.asks b.over b.why)::(q.W,wrO (b.wrote++[(d.path,d.data)]))::(M++H'),HSub.of_perm ?_,?_⟩
   ·refine List.perm_iff_count.2 fun a=>?_
    simp only[List.count_append,List.count_cons,List.count_nil];omega
   simp (disch:=omega) [zz]
   refine hN _ (n,{ b with run:=r',wrote:=b.wrote++[(d.path,d.data)] },q'.core B { b with run:=r',wrote:=b.wrote++[(d.path,d.data)] }) ?_ ⟨hn,hgr,q',?_,rfl⟩ (by simp only;omega)
   ·rw[show q'.core B { b with run:=r',wrote:=b.wrote++[(d.path,d.data)] }=(B,zY q.R b.outs (jN q.bo q.bi q.ba) q.W q.rd b.asks b.over b.why)::(q.W,wrO (b.wrote++[(d.path,d.data)]))::(M++H') by rw[hq',hM];rfl]
    refine Le.ofP ?_ ?_ ?_ ?_ (HSub.refl _)<;>simp[zA,qF]
   ·rw[hq'];exact⟨hrun',hq.reads,hq.may,hq.mb⟩
 by_cases h3:d.kind=3
 ·-- it has ended
  obtain⟨lk,hlk⟩:∃lk,lk=D4 b:=⟨_,rfl⟩
  have hany:=VB (fun x=>decide (x∉b.wrote.map (·.1))) (.fn 118 [.ptr b1 .ptr []]) [(b1,QJ B),(B,zY q.R b.outs (jN q.bo q.bi q.ba) q.W q.rd b.asks true b.why),(q.W,wrO b.wrote)] b.outs
   ⟨by simp only[q8.er_cons,q8.er_nil,KC (mf:=jN q.bo q.bi q.ba) rfl hre,W3];rfl,rfl,fun x hx=>⟨_,rfl,by simp,by simpa[TV.er,AV.er]using zlh b1 B x q.R b.outs (jN q.bo q.bi q.ba) q.W q.rd b.asks true b.why b.wrote rfl hre⟩⟩ (by have:=hq.mb.o;omega)
  have hlq:b.outs.any (fun x=>decide (x∉b.wrote.map (·.1)))=lk:=by rw[hlk];rfl
  rw[hlq]at hany
  have he3:q8.er [(b1,QJ B),(B,zY q.R b.outs (jN q.bo q.bi q.ba) q.W q.rd b.asks true b.why),(q.W,wrO b.wrote)]=[(b1,QJ B),(B,zY q.R b.outs (jN q.bo q.bi q.ba) q.W q.rd b.asks true b.why),(q.W,wrO b.wrote)]:=by
   simp only[q8.er_cons,q8.er_nil,KC (mf:=jN q.bo q.bi q.ba) rfl hre,W3];rfl
  simp (disch:=omega) [zz,QJ,zY,jX,h1,h2,h3,n1,n1']
  refine qD (R:=fun r H9=>r=.av .bool (.b lk)/\H9=[(b1,QJ B),(B,zY q.R b.outs (jN q.bo q.bi q.ba) q.W q.rd b.asks true b.why),(q.W,wrO b.wrote)]) [(b1,QJ B),(B,zY q.R b.outs (jN q.bo q.bi q.ba) q.W q.rd b.asks true b.why),(q.W,wrO b.wrote)] (M++H') ?_ rfl (by simp[qI]) (by simp) ?_ ?_
  ·simp only[QJ,zY,List.cons_append,List.nil_append];exact List.Perm.refl _
  ·rw[he3]
   simpa[TV.er,AV.er]using hany
  rintro r H9 ⟨rfl,rfl⟩ _
  refine⟨_,HSub.refl _,?_⟩
  cases lk with
  | true =>
   have e:roundB b=(Q0 14 { b with run:=r' },false):=by rw[hrb,if_neg h1,if_neg h2,if_pos h3,if_pos hlk.symm]
   rw[e]at hn hgr
   simp only[Bool.false_eq_true,if_false]at hn hgr
   simp (disch:=omega) [zz,QJ,zY,n1,n1']
   refine qD (R:=fun r H'=>r=.tup []/\H'=[(B,zY q.R b.outs (jN q.bo q.bi q.ba) q.W q.rd b.asks true 14)]) [(B,zY q.R b.outs (jN q.bo q.bi q.ba) q.W q.rd b.asks true b.why)] ((b1,QJ B)::(q.W,wrO b.wrote)::(M++H')) ?_ rfl (by simp[qI]) (by simp) ?_ ?_
   ·refine List.perm_iff_count.2 fun a=>?_
    simp only[QJ,zY,jN,ho',List.count_append,List.count_cons,List.count_nil];omega
   ·rw[q8.er_cons,KC rfl hre]
    refine q7.args (PR B (14) q.R b.outs (jN q.bo q.bi q.ba) q.W q.rd b.asks true b.why rfl hre) (by simp[qM,coC,TV.er,AV.er])
   rintro r H9 ⟨rfl,rfl⟩ _
   refine⟨(b1,QJ B)::(B,zY q.R b.outs (jN q.bo q.bi q.ba) q.W q.rd b.asks true 14)::(q.W,wrO b.wrote)::(M++H'),HSub.of_perm (List.Perm.swap _ _ _),?_⟩
   simp (disch:=omega) [zz]
   refine hN _ (n,Q0 (14) { b with run:=r' },q'.core B (Q0 (14) { b with run:=r' })) ?_ ⟨hn,hgr,q',hqf _,rfl⟩ (by simp only;omega)
   rw[hcf]
   refine Le.ofP ?_ ?_ ?_ ?_ (HSub.refl _)<;>simp[zA,qF]
  | false =>
   have e:roundB b=({ b with run:=r',over:=true },false):=by rw[hrb,if_neg h1,if_neg h2,if_pos h3,if_neg (by rw[<-hlk];decide)]
   rw[e]at hn hgr
   simp only[Bool.false_eq_true,if_false]at hn hgr
   simp (disch:=omega) [zz,QJ,zY,n1,n1']
   refine hN _ (n,{ b with run:=r',over:=true },q'.core B { b with run:=r',over:=true }) ?_ ⟨hn,hgr,q',hqo,rfl⟩ (by simp only;omega)
   rw[hco]
   refine Le.ofP ?_ ?_ ?_ ?_ (HSub.refl _)<;>simp[zA,qF,QJ,zY]
 ·-- it has failed
  have e:roundB b=(Q0 d.why { b with run:=r' },false):=by rw[hrb,if_neg h1,if_neg h2,if_neg h3]
  rw[e]at hn hgr
  simp only[Bool.false_eq_true,if_false]at hn hgr
  simp (disch:=omega) [zz,QJ,zY,jX,h1,h2,h3,n1,n1']
  refine qD (R:=fun r H'=>r=.tup []/\H'=[(B,zY q.R b.outs (jN q.bo q.bi q.ba) q.W q.rd b.asks true d.why)]) [(B,zY q.R b.outs (jN q.bo q.bi q.ba) q.W q.rd b.asks b.over b.why)] ((b1,QJ B)::(q.W,wrO b.wrote)::(M++H')) ?_ rfl (by simp[qI]) (by simp) ?_ ?_
  ·refine List.perm_iff_count.2 fun a=>?_
   simp only[QJ,zY,jN,ho',List.count_append,List.count_cons,List.count_nil];omega
  ·rw[q8.er_cons,KC rfl hre]
   refine q7.args (PR B (d.why) q.R b.outs (jN q.bo q.bi q.ba) q.W q.rd b.asks b.over b.why rfl hre) (by simp[qM,coC,TV.er,AV.er])
  rintro r H9 ⟨rfl,rfl⟩ _
  refine⟨(b1,QJ B)::(B,zY q.R b.outs (jN q.bo q.bi q.ba) q.W q.rd b.asks true d.why)::(q.W,wrO b.wrote)::(M++H'),HSub.of_perm (List.Perm.swap _ _ _),?_⟩
  simp (disch:=omega) [zz]
  refine hN _ (n,Q0 (d.why) { b with run:=r' },q'.core B (Q0 (d.why) { b with run:=r' })) ?_ ⟨hn,hgr,q',hqf _,rfl⟩ (by simp only;omega)
  rw[hcf]
  refine Le.ofP ?_ ?_ ?_ ?_ (HSub.refl _)<;>simp[zA,qF]
abbrev zcw:TyD:=.struct [31,9,32,24,24,24]
structure wD where
 pkg:Txt
 name:Txt
 tool:Txt
 env:List (Txt × Txt)
 ins:List Txt
 asks:List Txt
 outs:List Txt
def zI (a:wD):AV:=.agg [.agg [.s a.pkg,.s a.name],.s a.tool,j6 a.env,.sl .no (strs a.ins),.sl .no (strs a.asks),.sl .no (strs a.outs)]
@[simp] theorem uA (a:wD):(zI a).er=zI a:=by
 simp[zI,AV.er,AV.ers,G8,strs,AV.ers_eq,Function.comp_def]
abbrev zsS:Cfg:=⟨fun _=>false,fun n=>n==3000001⟩
theorem zkK (a:wD) (h1:a.ins.length<=1000000) (h2:a.asks.length<=1000000) (h3:a.outs.length<=1000000) :
  q7 Tryz.prog 78 [.av zcw (zI a)] [] fun r H'=>∃bo bi ba,r=.av .func (jN bo bi ba)/\H'=xG bo bi ba a.outs a.ins a.asks:=by
 refine q7.sub (R:=fun r H'=>∃bo bi ba,r=.av .func (jN bo bi ba)/\∃H2,Ab.HSub H2 H'/\H2=xG bo bi ba a.outs a.ins a.asks) ?_ fun r H' ⟨bo,bi,ba,h1,H2,h2,h3⟩ _=>⟨H2,h2,bo,bi,ba,h1,h3⟩
 refine zov Tryz.func78 zsS fun imm0 w0=>?_
 simp (disch:=omega) [zz,zI]
 (repeat with_reducible refine om ?_)
 refine y9 (uH a.ins h1) rfl rfl (by simp) (by simp[qM,TV.er,AV.er]) ?_
 simp (disch:=omega) [zz]
 (repeat with_reducible refine om ?_)
 refine y9 (uH a.asks h2) rfl rfl (by simp) (by simp[qM,TV.er,AV.er]) ?_
 simp (disch:=omega) [zz]
 (repeat with_reducible refine om ?_)
 refine y9 (uH a.outs h3) rfl rfl (by simp) (by simp[qM,TV.er,AV.er]) ?_
 simp (disch:=omega) [zz]
 (repeat with_reducible refine om ?_)
 intro bi ba nba bo nbo1 nbo2
 simp (disch:=omega) [zz,jN,xG,xK,Tryz.f78]
 refine⟨bo,bi,ba,⟨rfl,rfl,rfl⟩,HSub.of_perm ?_⟩
 exact List.Perm.cons _ (List.Perm.swap _ _ _)
theorem zni {pr:List Nat} {P:Program} {cf:Cfg} {ops:Array Oper} {Lt:LtK} {K:St->Prop} {k m:Nat} {ra rb:List Nat} {s:St}:zcn pr P cf ops Lt K k m ra rb [] s=match ops[k]?,ops[m]? with
  | some ok,some om=>zmM ops k m ra=true/\(zck ops Lt pr k=true/\vE P cf s ok Lt.kb (gL pr P cf ops Lt K ra))/\(zck ops Lt pr m=true/\vE P cf s om Lt.kb (gL pr P cf ops Lt K rb))
  | _,_=>False:=nr rfl
theorem zkN {pr:List Nat} {P:Program} {cf:Cfg} {ops:Array Oper} {Lt:LtK} {K:St->Prop} {k m:Nat} {ra rb:List Nat} {j:Nat} {r:List Nat} {s:St}:zcn pr P cf ops Lt K k m ra rb (j::r) s=match ops[j]? with
  | none=>False
  | some o=>pr.contains j=false/\x6 ops j o s=true/\o.guard=none/\((isLt Lt.kb s o=true/\zQ P s o.op (Y6 s o.dst (zcn pr P cf ops Lt K k m ra rb r)))\/zfG P s o (zcn pr P cf ops Lt K k m ra rb r)):=nr rfl
theorem zc9 {pr:List Nat} {P:Program} {cf:Cfg} {ops:Array Oper} {Lt:LtK} {K:St->Prop} {s:St}:gL pr P cf ops Lt K [] s=K s:=nr rfl
theorem dR {pr:List Nat} {P:Program} {cf:Cfg} {ops:Array Oper} {Lt:LtK} {K:St->Prop} {k:Nat} {r:List Nat} {s:St}:gL pr P cf ops Lt K (k::r) s=match ops[k]? with
  | none=>False
  | some o=>if pr.contains k=true then PO ops k r=true/\zck ops Lt pr k=true/\vE P cf s o Lt.kb (gL pr P cf ops Lt K r)
   else if sft cf o=true then PO ops k r=true/\zck ops Lt pr k=true/\vE P cf s o Lt.kb (gL pr P cf ops Lt K r)
   else if zng cf o=true then GO ops k=true/\vcG P cf ops s o (gL pr P cf ops Lt K r)
   else x6 ops k o s=true/\o.guard=none/\Lt.l.contains k=false/\vcD P cf s o (gL pr P cf ops Lt K r):=nr rfl
abbrev zig:Cfg:=⟨fun n=>n==27,fun n=>n==1000001||n==2000013||n==26||n==2000027⟩
theorem GY:∀(ls:List Txt) (i:Nat) (l:List CmdV),QE i ls=.ok l->∀c∈l,∃s∈ls,JF s=some (some c)
 | [],i,l,h,c,hc=>by cases h;cases hc
 | s::r,i,l,h,c,hc=>by
  unfold QE at h
  split at h
  ·cases h
  ·obtain⟨x,h1,h2⟩:=GY r _ _ h c hc
   exact⟨x,List.mem_cons_of_mem _ h1,h2⟩
  ·rename_i c' hc'
   split at h
   ·rename_i l' hl'
    cases h
    rcases List.mem_cons.1 hc with rfl|hc
    ·exact⟨s,List.mem_cons_self,hc'⟩
    ·obtain⟨x,h1,h2⟩:=GY r _ _ hl' c hc
     exact⟨x,List.mem_cons_of_mem _ h1,h2⟩
   ·cases h
theorem UT {t:Txt} {cs:List CmdV} (h:jB t=.ok cs):t.length<=65536/\∃i,QE i (qZ t)=.ok cs:=by
 unfold jB at h
 split at h
 ·cases h
 ·rename_i hn
  split at h
  ·rename_i l hl
   cases h
   exact⟨by omega,0,hl⟩
  ·cases h
theorem zik {t:Txt} {cs:List CmdV} (h:jB t=.ok cs) {env:List (Txt × Txt)} (h1:env.length<=1000000000) (h2:∀x∈env,x.2.length<=1000000000000000):wF (YU env cs)/\ZQ (YU env cs):=by
 obtain⟨ht,i,hc⟩:=UT h
 have hl:=ZC h
 have hk:∀x∈(YU env cs).todo,okt x/\zpr x:=by
  intro x hx
  obtain⟨c,hcm,rfl⟩:=List.mem_map.1 hx
  obtain⟨s,hs,hr⟩:=GY _ _ _ hc c (List.mem_reverse.1 hcm)
  have hsl:=x5 hs
  obtain⟨g1,g2,g3,g4,g5⟩:=zly hr
  refine⟨⟨g1,by omega,fun w hw=>by have:=g3 w hw;omega⟩,?_⟩
  intro hw
  cases g1 with
  | read p rs=>exact g5 p rs (.inl rfl)
  | try_ p rs=>exact g5 p rs (.inr (.inl rfl))
  | scan p w rs=>exact g4 p w rs rfl
  | write p rs=>exact g5 p rs (.inr (.inr rfl))
  | env a rs=>revert hw;simp[jL,qW,jD,zC]
  | need a rs=>revert hw;simp[zL,qW,jD,zC]
  | keep a rs=>revert hw;simp[zS,qW,jD,zC]
  | sort rs=>revert hw;simp[zR,qW,jD,zC]
  | uniq rs=>revert hw;simp[zW,qW,jD,zC]
  | upper rs=>revert hw;simp[qY,qW,jD,zC]
  | count rs=>revert hw;simp[z7,qW,jD,zC]
  | fail rs=>revert hw;simp[zZ,qW,jD,zC]
  | text rs=>revert hw;simp[zH,qW,jD,zC]
 exact⟨⟨zdB env cs hl,fun x hx=>(hk x hx).1,h1,h2⟩,⟨fun x hx=>(hk x hx).2,fun e=>by cases e⟩⟩
theorem DG {t:Txt} {cs:List CmdV} (h:jB t=.ok cs) {env:List (Txt × Txt)} (h1:env.length<=1000000000) (h2:∀x∈env,x.2.length<=1000000000000000) (outs:List Txt) (may:Txt->Bool):ZN (dX env outs may cs):=by
 obtain⟨g1,g2⟩:=zik h h1 h2
 exact⟨g1,g2,⟨.inl rfl,fun e=>rfl⟩,by show (0:Int)≠2;decide⟩
structure zpy (a:wD):Prop where
 bt:a.tool.length<=1000000
 be:a.env.length<=1000000
 bev:∀x∈a.env,x.2.length<=1000000000000000
 bi:a.ins.length<=1000000
 ba:a.asks.length<=1000000
 bae:∀x∈a.asks,x.length<=1900000
 bo:a.outs.length<=1000000
noncomputable def Z8 (a:wD):Txt->Bool:=zca a.outs a.ins a.asks
def zrQ (a:wD) (r:TV) (H':q8):Prop:=match jB a.tool with
 | .error (e,_)=>r=.tup [(.ptr,.nilptr),(.int .i64,.i .i64 e)]/\H'=[]
 | .ok cs=>∃B,r=.tup [(.ptr,.ptr B VY []),(.int .i64,.i .i64 0)]/\KP B (U0 a.env a.outs (Z8 a) cs) H'
theorem KP.er {B:Nat} {b:j9} {H:q8} (h:KP B b H):H.er=H:=by
 obtain⟨q,hq,rfl⟩:=h
 exact(hq.er B).1
theorem zrn (a:wD) (hb:zpy a):q7 Tryz.prog 45 [.av zcw (zI a)] [] (zrQ a):=by
 obtain⟨ht,he,hev,h1,h2,h2e,h3⟩:=hb
 have hce:=zbL a.env he
 have hst:=znb a.tool ht a.env he
 have hea:=G8 a.env
 unfold zrQ
 refine q7.of_at laid Tryz.func45 rfl (by simp[Tryz.ntmps45]) fun imm0 w0=>?_
 refine AT.seq ?_
 refine zrd zig ?_
 simp (disch:=omega) [zz,zI]
 refine AT.seq ?_
 refine zrd zig ?_
 simp (disch:=omega) [zz]
 refine kI.ofK [0,1,2,3,4,5,6,7,8,9,10] [] [] (by kernel_rfl) ?_
 simp (disch:=omega) [zz]
 (repeat with_reducible refine om ?_)
 refine y9 hce rfl rfl (by simp) (by simp[qM,TV.er,hea]) ?_
 simp (disch:=omega) [zz]
 (repeat with_reducible refine om ?_)
 refine wZ (R:=zc6 a.tool a.env) rfl (by simp[qI]) (by simp) ?_ ?_
 ·simpa[TV.er,AV.er,hea,q8.er_nil]using hst
 intro r H' hsp
 unfold zc6 at hsp
 cases hcv:jB a.tool with
 | error en =>
  obtain⟨e,n⟩:=en
  rw[hcv]at hsp
  obtain⟨rfl,rfl⟩:=hsp
  have hne:¬e=0:=by rcases X7 hcv with h|h<;>omega
  simp (disch:=omega) [zz]
  (repeat with_reducible refine om ?_)
  refine AT.seq ?_
  refine zrd zig ?_
  simp (disch:=omega) [zz,hne]
  simp (disch:=omega) [zz,Tryz.f45]
 | ok cs =>
  rw[hcv]at hsp
  obtain⟨R,rfl,hrun⟩:=hsp
  have hle:=ZC hcv
  have hre:=hrun.er
  have hcl:=uH a.outs h3
  have hrd:=zkK a h1 h2 h3
  have hgo:=(PL (zho a.env a.outs (Z8 a) cs hle)).1
  have hgood:=DG hcv (env:=a.env) (by omega) hev a.outs (Z8 a)
  simp (disch:=omega) [zz]
  (repeat with_reducible refine om ?_)
  refine AT.seq ?_
  refine zrd zig ?_
  simp (disch:=omega) [zz]
  refine AT.seq ?_
  have fin:∀(B W bo bi ba:Nat) (H0:q8),H0.Perm ((B,zY R a.outs (jN bo bi ba) W .nsl [] false 0)::(W,wrO [])::(xG bo bi ba a.outs a.ins a.asks++H'))->∃H2,H0.Perm H2/\KP B (dX a.env a.outs (Z8 a) cs) H2:=by
   intro B W bo bi ba H0 hp
   refine⟨_,hp,⟨R,H',W,bo,bi,ba,a.ins,a.asks,.nsl,[]⟩,⟨hrun,.inl ⟨rfl,rfl,rfl⟩,rfl,⟨Nat.le_trans h3 (by omega),Nat.le_trans h1 (by omega),Nat.le_trans h2 (by omega),h2e⟩⟩,?_⟩
   simp[KS.core,KS.M,dX]
  refine AT.two (cf:=zig) laid mixed [0,1,2,3,4] 5 6 [6,7,8,9] [5,7,8,9] [0,1,2,3,4] (by kernel_rfl) (by kernel_rfl) (by decide) (by kernel_rfl) (by kernel_rfl) ?_
  simp (disch:=omega) [zz,zkN,zni,dR,zc9,zfG,isLt,zng]
  (repeat with_reducible refine om ?_)
  have hae:(AV.agg [.agg [.s a.pkg,.s a.name],.s a.tool,j6 a.env,.sl .no (strs a.ins),.sl .no (strs a.asks),.sl .no (strs a.outs)]).er=zI a:=uA a
  refine⟨_,hcl,by kernel_rfl,by kernel_rfl,⟨by kernel_rfl,?_⟩,by kernel_rfl,?_⟩
  ·refine qD (R:=fun r H'=>∃bo bi ba,r=.av .func (jN bo bi ba)/\H'=xG bo bi ba a.outs a.ins a.asks) [] H' (by simp) rfl (by simp[qI]) (by simp) ?_ ?_
   ·have hrd':=hrd
    simp only[zI]at hrd'
    simpa[TV.er,AV.er,AV.ers,hea]using hrd'
   rintro r2 H2 ⟨bo,bi,ba,rfl,rfl⟩ hnd
   refine⟨_,HSub.refl _,?_⟩
   refine⟨by kernel_rfl,by kernel_rfl,?_⟩
   simp (disch:=omega) [zz,dR,zc9,zng]
   intro W w1 w2
   refine⟨by kernel_rfl,by kernel_rfl,by kernel_rfl,?_⟩
   intro B x1 x2 x3
   obtain⟨H2,hp2,hH2⟩:=fin B W bo bi ba _ (List.Perm.refl _)
   refine zrd zig ?_
   simp (disch:=omega) [zz]
   refine qD (R:=fun y H'=>y=.tup []/\KP B (U0 a.env a.outs (Z8 a) cs) H') H2 [] (by simpa[zY,wrO,wrE]using hp2) rfl (by simp[qI]) (by simp) ?_ ?_
   ·rw[hH2.er]
    have hgo2:=xQ B hH2 hgood _ hgo
    rw[show ZS (dX a.env a.outs (Z8 a) cs)=U0 a.env a.outs (Z8 a) cs from rfl]at hgo2
    simpa[TV.er,AV.er]using hgo2
   rintro y H9 ⟨rfl,hfin⟩ _
   refine⟨H9,by simpa using HSub.refl _,?_⟩
   have hfe:=hfin.er
   simp (disch:=omega) [zz,hfe,Tryz.f45]
   exact hfin
  ·intro W w1
   refine⟨by kernel_rfl,by kernel_rfl,?_⟩
   refine qD (R:=fun r H'=>∃bo bi ba,r=.av .func (jN bo bi ba)/\H'=xG bo bi ba a.outs a.ins a.asks) [] ((W,.map 9 9 [])::H') (by simp) rfl (by simp[qI]) (by simp) ?_ ?_
   ·have hrd':=hrd
    simp only[zI]at hrd'
    simpa[TV.er,AV.er,AV.ers,hea]using hrd'
   rintro r2 H2 ⟨bo,bi,ba,rfl,rfl⟩ hnd
   refine⟨_,HSub.refl _,?_⟩
   simp (disch:=omega) [zz,dR,zc9,zng]
   refine⟨by kernel_rfl,by kernel_rfl,by kernel_rfl,?_⟩
   intro B x1 x2 x3
   obtain⟨H2,hp2,hH2⟩:=fin B W bo bi ba ((B,zY R a.outs (jN bo bi ba) W .nsl [] false 0)::(xG bo bi ba a.outs a.ins a.asks++(W,wrO [])::H')) (by
    refine List.perm_iff_count.2 fun a=>?_
    simp only[List.count_append,List.count_cons];omega)
   refine zrd zig ?_
   simp (disch:=omega) [zz]
   refine qD (R:=fun y H'=>y=.tup []/\KP B (U0 a.env a.outs (Z8 a) cs) H') H2 [] (by simpa[zY,wrO,wrE]using hp2) rfl (by simp[qI]) (by simp) ?_ ?_
   ·rw[hH2.er]
    have hgo2:=xQ B hH2 hgood _ hgo
    rw[show ZS (dX a.env a.outs (Z8 a) cs)=U0 a.env a.outs (Z8 a) cs from rfl]at hgo2
    simpa[TV.er,AV.er]using hgo2
   rintro y H9 ⟨rfl,hfin⟩ _
   refine⟨H9,by simpa using HSub.refl _,?_⟩
   have hfe:=hfin.er
   simp (disch:=omega) [zz,hfe,Tryz.f45]
   exact hfin
end
end Go.Proofs.YtfkcpballfhddaaGreatDoor
