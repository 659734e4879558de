/- What a tool does next; what it is told. No condition. -/
import Derived.Test.YtdkieabmeiojjaaGreatDoorKTbToKTf
set_option linter.unusedSimpArgs false
set_option linter.unusedVariables false
set_option linter.unusedSectionVars false
set_option maxHeartbeats 64000000
set_option maxRecDepth 100000
namespace Go.Proofs.YtdkieabmeiojjaaGreatDoor
open Go Go.Ab
open Classical
section
variable [Sel] [SelPow] [SelMax]
abbrev DoT:TyD:=.struct [3,9,9,28]
theorem kK.next {r:qG} (h:kK r):kK (kN r).2:=by
 have hs:=h.settle
 unfold kN
 simp only
 split
 ·exact hs
 ·split
  ·exact⟨hs.inv.of_same rfl rfl rfl rfl rfl rfl,hs.ok,hs.en,hs.ev⟩
  ·exact hs
theorem kK.give {r:qG} (h:kK r) (k:KnV) (hk:k.is=true->k.data.length<=1000000):kK (Z2 k r).2:=by
 have hi:=zb9 h.inv k hk
 have hs:=h.settle
 refine⟨hi,?_,?_,?_⟩
 all_goals
  unfold Z2
  simp only
  split
  ·first|exact hs.ok|exact hs.en|exact hs.ev
  split
  ·first|exact hs.ok|exact hs.en|exact hs.ev
  split
  ·first|exact hs.ok|exact hs.en|exact hs.ev
  ·first|exact hs.ok|exact hs.en|exact hs.ev
theorem znm (R:Nat) {r:qG} {H:q8} (hH:qQ R r H) (hg:kK r) :
  q7 Tryz.prog 115 [.av .ptr (.ptr R kO [])] H fun y H'=>y=.av DoT (jA (kN r).1)/\qQ R (kN r).2 H':=by
 have j9:=zbL R hH hg
 have her:=hH.er
 obtain⟨s,hs⟩:∃s,s=k9 r:=⟨_,rfl⟩
 have hn:kN r=(if s.waits=true then(⟨1,s.asks,[],0⟩,s) else(s.over,if s.over.kind=2 then { s with over:=do0 } else s)):=by rw[hs];rfl
 rw[<-hs]at j9
 by_cases hw:s.waits=true
 ·rw[if_pos hw]at hn
  rw[hn]
  refine q7.sub (R:=fun y H'=>y=.av DoT (jA ⟨1,s.asks,[],0⟩)/\∃H2,Ab.HSub H2 H'/\qQ R s H2) ?_ fun y H' ⟨h1,H2,h2,h3⟩ _=>⟨H2,h2,h1,h3⟩
  refine zov Tryz.func115 cf0 fun imm0 w0=>?_
  simp (disch:=omega) [zz]
  refine qD (R:=fun y H'=>y=.tup []/\qQ R s H') H [] (by simp) rfl (by simp[qE]) (by simp) ?_ ?_
  ·rw[her]
   simpa[TV.er,AV.er]using j9
  rintro y H' ⟨rfl,hh⟩ _
  refine⟨H',by simpa using HSub.refl _,?_⟩
  obtain⟨p,hp,rfl⟩:=hh
  have her1:=(show qQ R s (p.core R s) from⟨p,hp,rfl⟩).er
  obtain⟨rest,hrest⟩:∃rest,rest=kY p s:=⟨_,rfl⟩
  have hco:=zY p R s
  rw[<-hrest]at hco
  have her3:=her1
  rw[hco,q8.er_cons]at her3
  have e6:=(List.cons.inj her3).2
  obtain⟨_,e2⟩:=hp.todo.er hp.tds
  have e3:=zH s.env
  rw[hco]
  simp (disch:=omega) [zz,qJ,jA,hw]
  simp (disch:=omega) [zz,qJ,jA,hw,e2,e3,e6,Tryz.f115]
  refine⟨p.core R s,?_,p,hp,rfl⟩
  rw[hco]
  simp only[qJ,jA,hw]
  exact HSub.refl _
 rw[if_neg hw]at hn
 have hw':s.waits=false:=by simpa using hw
 by_cases hk:s.over.kind=2
 ·rw[if_pos hk]at hn
  rw[hn]
  refine q7.sub (R:=fun y H'=>y=.av DoT (jA s.over)/\∃H2,Ab.HSub H2 H'/\qQ R { s with over:=do0 } H2) ?_ fun y H' ⟨h1,H2,h2,h3⟩ _=>⟨H2,h2,h1,h3⟩
  refine zov Tryz.func115 cf0 fun imm0 w0=>?_
  simp (disch:=omega) [zz]
  refine qD (R:=fun y H'=>y=.tup []/\qQ R s H') H [] (by simp) rfl (by simp[qE]) (by simp) ?_ ?_
  ·rw[her]
   simpa[TV.er,AV.er]using j9
  rintro y H' ⟨rfl,hh⟩ _
  refine⟨H',by simpa using HSub.refl _,?_⟩
  obtain⟨p,hp,rfl⟩:=hh
  have her1:=(show qQ R s (p.core R s) from⟨p,hp,rfl⟩).er
  obtain⟨rest,hrest⟩:∃rest,rest=kY p s:=⟨_,rfl⟩
  have hco:=zY p R s
  rw[<-hrest]at hco
  have her3:=her1
  rw[hco,q8.er_cons]at her3
  have e6:=(List.cons.inj her3).2
  obtain⟨_,e2⟩:=hp.todo.er hp.tds
  have e3:=zH s.env
  rw[hco]
  simp (disch:=omega) [zz,qJ,jA,hw',hk]
  simp (disch:=omega) [zz,qJ,jA,hw',hk,e2,e3,e6,Tryz.f115]
  refine⟨p.core R { s with over:=do0,waits:=false },?_,p,⟨hp.todo,hp.seen,hp.box,hp.tds⟩,rfl⟩
  rw[zY,show kY p { s with over:=do0,waits:=false }=rest by rw[hrest];rfl]
  simp only[qJ,jA,do0]
  exact HSub.refl _
 ·rw[if_neg hk]at hn
  rw[hn]
  refine q7.sub (R:=fun y H'=>y=.av DoT (jA s.over)/\∃H2,Ab.HSub H2 H'/\qQ R s H2) ?_ fun y H' ⟨h1,H2,h2,h3⟩ _=>⟨H2,h2,h1,h3⟩
  refine zov Tryz.func115 cf0 fun imm0 w0=>?_
  simp (disch:=omega) [zz]
  refine qD (R:=fun y H'=>y=.tup []/\qQ R s H') H [] (by simp) rfl (by simp[qE]) (by simp) ?_ ?_
  ·rw[her]
   simpa[TV.er,AV.er]using j9
  rintro y H' ⟨rfl,hh⟩ _
  refine⟨H',by simpa using HSub.refl _,?_⟩
  obtain⟨p,hp,rfl⟩:=hh
  have her1:=(show qQ R s (p.core R s) from⟨p,hp,rfl⟩).er
  obtain⟨rest,hrest⟩:∃rest,rest=kY p s:=⟨_,rfl⟩
  have hco:=zY p R s
  rw[<-hrest]at hco
  have her3:=her1
  rw[hco,q8.er_cons]at her3
  have e6:=(List.cons.inj her3).2
  obtain⟨_,e2⟩:=hp.todo.er hp.tds
  have e3:=zH s.env
  rw[hco]
  simp (disch:=omega) [zz,qJ,jA,hw',hk]
  simp (disch:=omega) [zz,qJ,jA,hw',hk,e2,e3,e6,Tryz.f115]
  refine⟨p.core R s,?_,p,hp,rfl⟩
  rw[hco]
  simp only[qJ,jA,hw']
  exact HSub.refl _
abbrev KnT:TyD:=.struct [9,4,9]
theorem zgW (p:Txt) (k:KnV):∀l:List KnV,j3 l p=none->k.path=p->K3 (.s p) (jD k) (knE l)=knE (l++[k])
 | [],_,h=>by subst h;rfl
 | x::l,h,hk=>by
  rw[dR]at h
  by_cases e:x.path=p
  ·rw[if_pos e]at h;cases h
  ·rw[if_neg e]at h
   have ih:=zgW p k l h hk
   simp only[knE,List.map_cons,K3,List.cons_append,AV.s.injEq,e,if_false]at ih |-
   rw[ih]
abbrev zkE:Cfg:=⟨fun _=>false,fun n=>n==1000010||n==35⟩
theorem zmp (R:Nat) {r:qG} {H:q8} (hH:qQ R r H) (hg:kK r) (k:KnV) (hkl:k.data.length<=1000000000000000) :
  q7 Tryz.prog 77 [.av .ptr (.ptr R kO []),.av KnT (jD k)] H fun y H'=>y=.av (.int .i64) (.i .i64 (Z2 k r).1)/\qQ R (Z2 k r).2 H':=by
 have j9:=zbL R hH hg
 have her:=hH.er
 have hsi:=(y9 hg.inv).2.1
 obtain⟨s,hs⟩:∃s,s=k9 r:=⟨_,rfl⟩
 have hn:Z2 k r=(if s.waits=false then(19,s) else if k.path≠s.asks then(1,s) else if k.is=true/\65536<k.data.length then(6,s) else(0,{ s with known:=s.known++[k],asks:=[],waits:=false })):=by rw[hs];rfl
 rw[<-hs]at j9 hsi
 by_cases hw:s.waits=true
 rotate_left
 ·have hw':s.waits=false:=by simpa using hw
  rw[if_pos hw']at hn
  rw[hn]
  refine q7.sub (R:=fun y H'=>y=.av (.int .i64) (.i .i64 19)/\∃H2,Ab.HSub H2 H'/\qQ R s H2) ?_ fun y H' ⟨h1,H2,h2,h3⟩ _=>⟨H2,h2,h1,h3⟩
  refine zov Tryz.func77 zkE fun imm0 w0=>?_
  simp (disch:=omega) [zz,jD]
  refine qD (R:=fun y H'=>y=.tup []/\qQ R s H') H [] (by simp) rfl (by simp[qE]) (by simp) ?_ ?_
  ·rw[her]
   simpa[TV.er,AV.er]using j9
  rintro y H' ⟨rfl,hh⟩ hnd
  refine⟨H',by simpa using HSub.refl _,?_⟩
  obtain⟨p,hp,rfl⟩:=hh
  have her1:=(show qQ R s (p.core R s) from⟨p,hp,rfl⟩).er
  obtain⟨rest,hrest⟩:∃rest,rest=kY p s:=⟨_,rfl⟩
  have hco:=zY p R s
  rw[<-hrest]at hco
  have her3:=her1
  rw[hco,q8.er_cons]at her3
  have e6:=(List.cons.inj her3).2
  obtain⟨_,e2⟩:=hp.todo.er hp.tds
  have e3:=zH s.env
  rw[hco]
  simp (disch:=omega) [zz,qJ,jA,hw']
  simp (disch:=omega) [zz,e2,e3,e6,jA,Tryz.f77]
  refine⟨p.core R s,?_,p,hp,rfl⟩
  rw[hco]
  simp only[qJ,jA,hw']
  exact HSub.refl _
 rw[if_neg (by rw[hw];decide)]at hn
 by_cases hp1:k.path=s.asks
 rotate_left
 ·rw[if_pos hp1]at hn
  rw[hn]
  refine q7.sub (R:=fun y H'=>y=.av (.int .i64) (.i .i64 1)/\∃H2,Ab.HSub H2 H'/\qQ R s H2) ?_ fun y H' ⟨h1,H2,h2,h3⟩ _=>⟨H2,h2,h1,h3⟩
  refine zov Tryz.func77 zkE fun imm0 w0=>?_
  simp (disch:=omega) [zz,jD]
  refine qD (R:=fun y H'=>y=.tup []/\qQ R s H') H [] (by simp) rfl (by simp[qE]) (by simp) ?_ ?_
  ·rw[her]
   simpa[TV.er,AV.er]using j9
  rintro y H' ⟨rfl,hh⟩ hnd
  refine⟨H',by simpa using HSub.refl _,?_⟩
  obtain⟨p,hp,rfl⟩:=hh
  have her1:=(show qQ R s (p.core R s) from⟨p,hp,rfl⟩).er
  obtain⟨rest,hrest⟩:∃rest,rest=kY p s:=⟨_,rfl⟩
  have hco:=zY p R s
  rw[<-hrest]at hco
  have her3:=her1
  rw[hco,q8.er_cons]at her3
  have e6:=(List.cons.inj her3).2
  obtain⟨_,e2⟩:=hp.todo.er hp.tds
  have e3:=zH s.env
  rw[hco]
  simp (disch:=omega) [zz,qJ,jA,hw,hp1]
  simp (disch:=omega) [zz,e2,e3,e6,jA,Tryz.f77]
  refine⟨p.core R s,?_,p,hp,rfl⟩
  rw[hco]
  simp only[qJ,jA,hw]
  exact HSub.refl _
 rw[if_neg (by simpa using hp1)]at hn
 by_cases hbig:k.is=true/\65536<k.data.length
 ·have hb':(65536:Int)<k.data.length:=by omega
  have hki:=hbig.1
  rw[if_pos hbig]at hn
  rw[hn]
  refine q7.sub (R:=fun y H'=>y=.av (.int .i64) (.i .i64 6)/\∃H2,Ab.HSub H2 H'/\qQ R s H2) ?_ fun y H' ⟨h1,H2,h2,h3⟩ _=>⟨H2,h2,h1,h3⟩
  refine zov Tryz.func77 zkE fun imm0 w0=>?_
  simp (disch:=omega) [zz,jD]
  refine qD (R:=fun y H'=>y=.tup []/\qQ R s H') H [] (by simp) rfl (by simp[qE]) (by simp) ?_ ?_
  ·rw[her]
   simpa[TV.er,AV.er]using j9
  rintro y H' ⟨rfl,hh⟩ hnd
  refine⟨H',by simpa using HSub.refl _,?_⟩
  obtain⟨p,hp,rfl⟩:=hh
  have her1:=(show qQ R s (p.core R s) from⟨p,hp,rfl⟩).er
  obtain⟨rest,hrest⟩:∃rest,rest=kY p s:=⟨_,rfl⟩
  have hco:=zY p R s
  rw[<-hrest]at hco
  have her3:=her1
  rw[hco,q8.er_cons]at her3
  have e6:=(List.cons.inj her3).2
  obtain⟨_,e2⟩:=hp.todo.er hp.tds
  have e3:=zH s.env
  rw[hco]
  simp (disch:=omega) [zz,qJ,jA,hw,hp1,hki,hb']
  simp (disch:=omega) [zz,e2,e3,e6,jA,Tryz.f77]
  refine⟨p.core R s,?_,p,hp,rfl⟩
  rw[hco]
  simp only[qJ,jA,hw]
  exact HSub.refl _
 rw[if_neg hbig]at hn
 have hfn:j3 s.known s.asks=none:=by
  rcases hsi with⟨_,h2⟩|⟨l,c,q,e,h2,h3,h4,_⟩
  ·rw[hw]at h2;cases h2
  ·obtain⟨g1,g2,g3⟩:=h4 hw
   rw[g1];exact g2
 have hmp:=zgW s.asks k s.known hfn hp1
 rw[jD,hp1]at hmp
 rw[hn]
 have hmm:=zcu (s.known++[k])
 cases hki:k.is with
 | false =>
  rw[hki]at hmp
  refine q7.sub (R:=fun y H'=>y=.av (.int .i64) (.i .i64 0)/\∃H2,Ab.HSub H2 H'/\qQ R { s with known:=s.known++[k],asks:=[],waits:=false } H2) ?_ fun y H' ⟨h1,H2,h2,h3⟩ _=>⟨H2,h2,h1,h3⟩
  refine zov Tryz.func77 zkE fun imm0 w0=>?_
  simp (disch:=omega) [zz,jD]
  refine qD (R:=fun y H'=>y=.tup []/\qQ R s H') H [] (by simp) rfl (by simp[qE]) (by simp) ?_ ?_
  ·rw[her]
   simpa[TV.er,AV.er]using j9
  rintro y H' ⟨rfl,hh⟩ hnd
  refine⟨H',by simpa using HSub.refl _,?_⟩
  obtain⟨p,hp,rfl⟩:=hh
  have her1:=(show qQ R s (p.core R s) from⟨p,hp,rfl⟩).er
  obtain⟨rest,hrest⟩:∃rest,rest=kY p s:=⟨_,rfl⟩
  have hco:=zY p R s
  rw[<-hrest]at hco
  have her3:=her1
  rw[hco,q8.er_cons]at her3
  have e6:=(List.cons.inj her3).2
  obtain⟨_,e2⟩:=hp.todo.er hp.tds
  have e3:=zH s.env
  obtain⟨n1,n2⟩:=zP.KR (by simpa using hnd)
  obtain⟨rest2,hrest2⟩:∃rest2:q8,rest2=p.TA++(p.QH++p.S):=⟨_,rfl⟩
  have e7:rest=(p.K,.map 9 74 (knE s.known))::rest2:=by rw[hrest,hrest2];rfl
  rw[e7,q8.er_cons]at e6
  have e8:=(List.cons.inj e6).2
  rw[hco,e7]
  simp (disch:=omega) [zz,qJ,jA,hw,hp1,hki,n1,n2,hmp]
  refine jO.ofK [0,1,2,3,4,5,6,7,8,9] [] [] (by kernel_rfl) ?_
  simp (disch:=omega) [zz,hw,hp1,hki,n1,n2,hmp]
  (repeat with_reducible refine om ?_)
  simp (disch:=omega) [zz,hw,hp1,hki,n1,n2,hmp,e2,e3,e8,hmm,Tryz.f77]
  refine⟨p.core R { s with known:=s.known++[k],asks:=[],waits:=false },?_,p,⟨hp.todo,hp.seen,hp.box,hp.tds⟩,rfl⟩
  rw[zY,show kY p { s with known:=s.known++[k],asks:=[],waits:=false }=(p.K,.map 9 74 (knE (s.known++[k])))::rest2 by rw[hrest2];rfl]
  simp only[qJ,jA]
  exact HSub.refl _
 | true =>
  have hb':¬(65536:Int)<k.data.length:=by
   intro h;exact hbig ⟨hki,by omega⟩
  rw[hki]at hmp
  refine q7.sub (R:=fun y H'=>y=.av (.int .i64) (.i .i64 0)/\∃H2,Ab.HSub H2 H'/\qQ R { s with known:=s.known++[k],asks:=[],waits:=false } H2) ?_ fun y H' ⟨h1,H2,h2,h3⟩ _=>⟨H2,h2,h1,h3⟩
  refine zov Tryz.func77 zkE fun imm0 w0=>?_
  simp (disch:=omega) [zz,jD]
  refine qD (R:=fun y H'=>y=.tup []/\qQ R s H') H [] (by simp) rfl (by simp[qE]) (by simp) ?_ ?_
  ·rw[her]
   simpa[TV.er,AV.er]using j9
  rintro y H' ⟨rfl,hh⟩ hnd
  refine⟨H',by simpa using HSub.refl _,?_⟩
  obtain⟨p,hp,rfl⟩:=hh
  have her1:=(show qQ R s (p.core R s) from⟨p,hp,rfl⟩).er
  obtain⟨rest,hrest⟩:∃rest,rest=kY p s:=⟨_,rfl⟩
  have hco:=zY p R s
  rw[<-hrest]at hco
  have her3:=her1
  rw[hco,q8.er_cons]at her3
  have e6:=(List.cons.inj her3).2
  obtain⟨_,e2⟩:=hp.todo.er hp.tds
  have e3:=zH s.env
  obtain⟨n1,n2⟩:=zP.KR (by simpa using hnd)
  obtain⟨rest2,hrest2⟩:∃rest2:q8,rest2=p.TA++(p.QH++p.S):=⟨_,rfl⟩
  have e7:rest=(p.K,.map 9 74 (knE s.known))::rest2:=by rw[hrest,hrest2];rfl
  rw[e7,q8.er_cons]at e6
  have e8:=(List.cons.inj e6).2
  rw[hco,e7]
  simp (disch:=omega) [zz,qJ,jA,hw,hp1,hki,hb',n1,n2,hmp]
  refine jO.ofK [0,1,2,3,4,5,6,7,8,9] [] [] (by kernel_rfl) ?_
  simp (disch:=omega) [zz,hw,hp1,hki,hb',n1,n2,hmp]
  (repeat with_reducible refine om ?_)
  simp (disch:=omega) [zz,hw,hp1,hki,hb',n1,n2,hmp,e2,e3,e8,hmm,Tryz.f77]
  refine⟨p.core R { s with known:=s.known++[k],asks:=[],waits:=false },?_,p,⟨hp.todo,hp.seen,hp.box,hp.tds⟩,rfl⟩
  rw[zY,show kY p { s with known:=s.known++[k],asks:=[],waits:=false }=(p.K,.map 9 74 (knE (s.known++[k])))::rest2 by rw[hrest2];rfl]
  simp only[qJ,jA]
  exact HSub.refl _
theorem cT (l:List (Txt × Txt)) (hl:l.length<=1000000):PC Tryz.prog 70 [.av (.slice 134) (zO l)] (.av (.slice 134) (zO l)):=by
 have hby:Tryz.prog.bytesOf 134=32:=by kernel_rfl
 refine zow Tryz.func70 cf0 fun imm0 w0=>?_
 simp (disch:=omega) [zz,zO]
 refine⟨?_,?_⟩
 ·intro h
  subst h
  simp (disch:=omega) [zz,Tryz.f70]
 ·simp (disch:=omega) [zz,yT,hby,Tryz.f70]
  exact⟨by omega,by omega,by simp[AV.ers_eq,Function.comp_def]⟩
theorem zep {H:q8} {b:Nat} {o:HObj} (hn:H.keys.Nodup) (h:(b,o)∈H):zZ H b=some o:=by
 induction H with
 | nil=>cases h
 | cons x r ih =>
  obtain⟨b',o'⟩:=x
  have hn':(b'::q8.keys r).Nodup:=hn
  rw[List.nodup_cons]at hn'
  rcases List.mem_cons.1 h with e|e
  ·cases e;simp[zZ]
  ·have hne:¬b'=b:=fun e'=>hn'.1 (e'▸List.mem_map.2 ⟨_,e,rfl⟩)
   simp only[zZ,hne,if_false]
   exact ih hn'.2 e
def WF (env:List (Txt × Txt)) (cs:List CmdV):qG:=⟨(cs.reverse).map .cmd,env,[],[],[],false,do0,[]⟩
theorem vS (l:List (Txt × Txt)):(zO l).er=zO l:=by simp[zO,AV.er,AV.ers_eq,x4,Function.comp_def,AV.ers]
theorem xZ (c:CmdV):(zE c).erk=zE c:=k8 _ (zbh c)
def zad (t:Txt) (env:List (Txt × Txt)) (y:TV) (H':q8):Prop:=match zL t with
 | .error (e,_)=>y=.tup [(.ptr,.nilptr),(.int .i64,.i .i64 e)]/\H'=[]
 | .ok cs=>∃R,y=.tup [(.ptr,.ptr R kO []),(.int .i64,.i .i64 0)]/\qQ R (WF env cs) H'
theorem YO {t:Txt} {e:Int} {n:Nat} (h:zL t=.error (e,n)):e=6\/e=3:=by
 unfold zL at h
 split at h
 ·cases h;exact .inl rfl
 ·split at h
  ·cases h
  ·cases h;exact .inr rfl
theorem Q8 {t:Txt} {cs:List CmdV} (h:zL t=.ok cs):cs.length<=400:=by
 unfold zL at h
 split at h
 ·cases h
 ·rename_i hn
  split at h
  ·rename_i l hl
   cases h
   have:=GM _ _ _ hl
   omega
  ·cases h
abbrev zii:Cfg:=⟨fun n=>n==9||n==11||n==25,fun n=>n==24||n==1000007||n==2000037||n==39⟩
theorem zji (t:Txt) (ht:t.length<=1000000) (env:List (Txt × Txt)) (hel:env.length<=1000000) :
  q7 Tryz.prog 69 [.av .str (.s t),.av (.slice 134) (zO env)] [] (zad t env):=by
 have hpc:=pZ t ht
 have hcl:=cT env hel
 refine q7.sub (R:=fun y H'=>∃H2,Ab.HSub H2 H'/\zad t env y H2) ?_ fun y H' ⟨H2,h2,h3⟩ _=>⟨H2,h2,h3⟩
 unfold zad
 unfold CO at hpc
 have hce:=zH env
 cases hcv:zL t with
 | error en =>
  obtain⟨e,n⟩:=en
  rw[hcv]at hpc
  have he:¬e=0:=by rcases YO hcv with h|h<;>omega
  refine zov Tryz.func69 zii fun imm0 w0=>?_
  simp (disch:=omega) [zz]
  refine zcv hpc ?_
  simp (disch:=omega) [zz,he,Tryz.f69]
  exact HSub.refl _
 | ok ls =>
 rw[hcv]at hpc
 have hll:=Q8 hcv
 simp only at hpc |-
 refine zov Tryz.func69 zii fun imm0 w0=>?_
 simp (disch:=omega) [zz]
 refine zcv hpc ?_
 simp (disch:=omega) [zz]
 refine qO hcl rfl rfl (by simp) (by simp[qR,TV.er,vS]) ?_
 simp (disch:=omega) [zz,zO]
 intro K R n1 br n2 n3
 obtain⟨r,hr⟩:∃r:qG,r=⟨[],env,[],[],[],false,do0,[]⟩:=⟨_,rfl⟩
 obtain⟨p,hpe⟩:∃p:zP,p=⟨K,none,[],[],[(br,qV R)],[],.nsl⟩:=⟨_,rfl⟩
 have hp:p.OK R r:=by
  rw[hpe,hr]
  exact⟨.inl ⟨rfl,rfl,rfl⟩,.inl ⟨rfl,rfl⟩,rfl,.nil⟩
 have hbr:(br,qV R)∈p.S:=by rw[hpe];simp
 have htd:r.todo.length<=1000000000:=by rw[hr];simp
 have hcore:p.core R r=(R,qJ .nsl (zO env) [] K [] false do0)::(K,.map 9 74 [])::[(br,qV R)]:=by
  rw[hpe,hr];simp[zP.core,knE]
 refine qD (R:=fun r' H'=>∃c,r'=.av .func (.fn 142 [.ptr c zgg []])/\H'=[(c,bcO ls)]) [] (p.core R r) ?_ rfl (by simp[qE]) (by simp) ?_ ?_
 ·rw[hcore,List.nil_append]
  refine List.perm_iff_count.2 fun a=>?_
  simp only[List.count_cons,List.count_nil,kO,qJ,zO,jA,do0,qV]
  omega
 ·simpa[TV.er,AV.er]using zkr ls
 rintro r' H' ⟨c,rfl,rfl⟩ hnd2
 refine⟨(c,bcO ls)::p.core R r,HSub.refl _,?_⟩
 simp (disch:=omega) [zz]
 refine AT.absE (fun E=>E 9=.av .ptr (.ptr br .ptr [])/\E 27=.av .func (.fn 142 [.ptr c zgg []])) (by simp) ?_
 rintro E ⟨hE1,hE9⟩
 refine AT.range (gf:=142) rfl (by simpa using hE9) rfl (by simp) ?_
 intro y D rr i0 w1 hy hrec hready hpend hpar has hbo
 obtain⟨G,hG⟩:∃G:Nat->q8->Prop,G=fun k H=>∃p':zP,p'.OK R (wN r ((ls.reverse.take k).map TdV.cmd))/\(br,qV R)∈p'.S/\H=(y,.lrec rr i0 w1)::p'.core R (wN r ((ls.reverse.take k).map TdV.cmd)):=⟨_,rfl⟩
 refine⟨(c,bcO ls)::(y,.lrec rr i0 w1)::p.core R r,[],fun t H'=>t=.tup []/\∃H1,G ls.length H1/\H'=(c,bcO ls)::H1,?_,?_,?_⟩
 ·rw[List.append_nil]
  exact List.Perm.swap _ _ _
 ·have her:=(show qQ R r (p.core R r) from⟨p,hp,rfl⟩).er
  have he:q8.er ((c,bcO ls)::(y,.lrec rr i0 w1)::p.core R r)=(c,bcO ls)::(y,.lrec rr i0 w1)::p.core R r:=by
   rw[q8.er_cons,q8.er_cons,her,zj5];rfl
  rw[he]
  refine zhB (G:=G) y c ls (by omega) ?_ ?_ _ ?_
  ·rw[hG]
   rintro k H ⟨p',hp',_,rfl⟩
   rw[q8.er_cons,(show qQ R _ (p'.core R _) from⟨p',hp',rfl⟩).er];rfl
  ·rw[hG]
   rintro k hk H ⟨p',hp',hbr',rfl⟩
   obtain⟨x,hx⟩:∃x,x=ls[ls.length-1-k]'(by omega):=⟨_,rfl⟩
   obtain⟨r1,hr1⟩:∃r1,r1=wN r ((ls.reverse.take k).map TdV.cmd):=⟨_,rfl⟩
   have hnx:wN r ((ls.reverse.take (k+1)).map TdV.cmd)=wN r1 [.cmd x]:=by
    rw[List.take_succ_eq_append_getElem (by simpa using hk),List.getElem_reverse,hr1,hx]
    simp[wN]
   have hr1t:r1.todo.length<=2000000000:=by
    rw[hr1]
    simp[wN]
    omega
   rw[<-hr1]at hp' |-
   rw[<-hx]
   refine zf7 (R:=fun rrr H'=>rrr=.av .bool (.b true)/\∃p'':zP,p''.OK R (wN r1 [.cmd x])/\(br,qV R)∈p''.S/\Ab.HSub ((y,.lrec rr i0 w1)::p''.core R (wN r1 [.cmd x])) H') ?_ (fun rrr H' ⟨e1,p'',e2,e4,e7⟩ _=>⟨_,e7,e1,p'',by rw[hnx];exact e2,e4,by rw[hnx]⟩)
   refine zef fun hnd=>?_
   obtain⟨S2,hS2⟩:=P0 hbr'
   obtain⟨rest,hrest⟩:∃rest:q8,rest=(p'.K,.map 9 74 (knE r1.known))::(p'.QH++S2):=⟨_,rfl⟩
   have hp1:((y,HObj.lrec rr i0 w1)::p'.core R r1).Perm ((y,.lrec rr i0 w1)::(R,qJ p'.ta (zO r1.env) r1.buf p'.K r1.asks r1.waits r1.over)::(br,qV R)::(p'.TA++rest)):=by
    refine List.perm_iff_count.2 fun a=>?_
    have:=hS2.count_eq a
    rw[hrest]
    simp only[zP.core,List.count_append,List.count_cons]at this |-
    omega
   have hnd1:(q8.keys ((y,HObj.lrec rr i0 w1)::(R,qJ p'.ta (zO r1.env) r1.buf p'.K r1.asks r1.waits r1.over)::(br,qV R)::(p'.TA++rest))).Nodup:=by
    have h1:(((y,HObj.lrec rr i0 w1)::p'.core R r1).map Prod.fst).Nodup:=hnd
    exact(hp1.map Prod.fst).nodup_iff.1 h1
   have hrer:rest.er=rest:=by
    have h1:=VB hp1 (by rw[q8.er_cons,(show qQ R _ (p'.core R _) from⟨p',hp',rfl⟩).er];rfl)
    exact YK.2 fun z hz=>YK.1 h1 z (by simp[hz])
   refine zh3 hp1 ?_
   refine YC.of_round (l:=y) hrec hready (by rw[hpar];rfl) (by rw[hpar];simp) (fun imm wd=>?_)
   rw[has,hbo,hpar]
   have hrl:∀(pp:Array Nat) (a b:Code),pp=rr.params->a=rr.assign->b=rr.body->({ state:=.ready,pending:=none,fn:=rr.fn,tmps:=rr.tmps,params:=pp,assign:=a,body:=b,defers:=rr.defers }:Loop)=rr:=by
    rintro _ _ _ rfl rfl rfl;exact UC hready hpend
   have her:∀r',(HObj.lrec r' i0 w1).er=HObj.lrec r' i0 w1:=fun _=>rfl
   have fin:∀(b6:Nat) (ta':AV) (TA' H':q8),zaV (p'.fs++[.fn 110 [.ptr br .ptr [],.ptr b6 QQ []]]) ta' TA'->
     Ab.HSub ((b6,kA x)::(y,.lrec rr i0 w1)::(R,qJ ta' (zO r1.env) r1.buf p'.K r1.asks r1.waits r1.over)::(br,qV R)::(TA'++rest)) H'->
     ∃p'':zP,p''.OK R (wN r1 [.cmd x])/\(br,qV R)∈p''.S/\Ab.HSub ((y,.lrec rr i0 w1)::p''.core R (wN r1 [.cmd x])) H':=by
    intro b6 ta' TA' H' hT hsub
    refine⟨{ p' with TA:=TA',S:=(b6,kA x)::p'.S,fs:=p'.fs++[.fn 110 [.ptr br .ptr [],.ptr b6 QQ []]],ta:=ta' },⟨hT,hp'.seen,?_,?_⟩,List.mem_cons_of_mem _ hbr',?_⟩
    ·show q8.er ((b6,kA x)::p'.S)=_
     rw[q8.er_cons,hp'.box]
     simp[kA,HObj.er_var,xZ]
    ·exact(hp'.tds.mono fun z hz=>List.mem_cons_of_mem _ hz).one ⟨br,b6,rfl,List.mem_cons_of_mem _ hbr',List.mem_cons_self⟩
    ·refine X9 (HSub.of_perm ?_) hsub
     refine List.perm_iff_count.2 fun a=>?_
     have:=hS2.count_eq a
     rw[hrest]
     simp only[zP.core,wN,List.count_append,List.count_cons]at this |-
     omega
   rcases hp'.todo with⟨hfs,hta,hTA⟩|⟨T,cap,j,hj,hta,hcap,hTA⟩
   ·rw[hTA]at hnd1 |-
    rw[hta]
    rw[hfs]at fin
    simp at hnd1
    obtain⟨⟨n1,n2,n3⟩,⟨n4,n5⟩,n6,n7⟩:=hnd1
    have n1':¬R=y:=fun e=>n1 e.symm
    have n2':¬br=y:=fun e=>n2 e.symm
    have n4':¬br=R:=fun e=>n4 e.symm
    refine zrd zii ?_
    simp (disch:=omega) [zz,Z6,yY,VZ,hE1]
    intro b6 m1 m2 m3 m4
    have m1':¬y=b6:=fun e=>m1 e.symm
    have m2':¬R=b6:=fun e=>m2 e.symm
    have m3':¬br=b6:=fun e=>m3 e.symm
    refine⟨by assumption,?_⟩
    refine zrd zii ?_
    simp (disch:=omega) [zz]
    refine jO.ofK [0,1,2,3,4,5,6,7,8,9,10] [0] [br] (by kernel_rfl) ?_
    simp (disch:=omega) [zz,hE1,n1,n2,n4,n1',n2',n4',m1,m2,m3,m1',m2',m3',qV,qJ]
    (repeat with_reducible refine om ?_)
    intro b cap c1 c2 c3 c4 c5 c6
    have c1':¬b6=b:=fun e=>c1 e.symm
    have c2':¬y=b:=fun e=>c2 e.symm
    have c3':¬R=b:=fun e=>c3 e.symm
    have c4':¬br=b:=fun e=>c4 e.symm
    refine⟨c4,?_⟩
    (repeat with_reducible refine om ?_)
    simp (disch:=omega) [zz,n1,n2,n4,n1',n2',n4',m1,m2,m3,m1',m2',m3',c1,c2,c3,c4,c1',c2',c3',c4']
    simp (disch:=omega) [zz,WY,UR,hrer,zH,Q7,n1,n2,n4,n1',n2',n4',m1,m2,m3,m1',m2',m3',c1,c2,c3,c4,c1',c2',c3',c4']
    rw[her,hrl _ _ _ hpar.symm has.symm hbo.symm,show AV.erks (List.replicate (cap-1) AV.nilfn)=_ from JK.rep rfl _]
    refine fin b6 (.msl b 1 0 1 cap) [(b,.var (.arr cap 1) (.agg (_::List.replicate (cap-1) .nilfn)))] _ (.inr ⟨b,cap,List.replicate (cap-1) .nilfn,JK.rep rfl _,rfl,by simp;omega,rfl⟩) (HSub.of_perm ?_)
    refine List.perm_iff_count.2 fun a=>?_
    simp only[List.count_append,List.count_cons,List.count_nil,QQ,xZ,kA,qV,qJ]
    omega
   ·rw[hTA]at hnd1 |-
    rw[hta]
    simp at hnd1
    obtain⟨⟨n1,n2,n8,n3⟩,⟨n4,n9,n5⟩,⟨n10,n6⟩,n11,n7⟩:=hnd1
    have n1':¬R=y:=fun e=>n1 e.symm
    have n2':¬br=y:=fun e=>n2 e.symm
    have n4':¬br=R:=fun e=>n4 e.symm
    have n8':¬T=y:=fun e=>n8 e.symm
    have n9':¬T=R:=fun e=>n9 e.symm
    have n10':¬T=br:=fun e=>n10 e.symm
    have hfl:=hp'.tds.len
    have hcapn:(0:Nat)+cap=cap:=by omega
    obtain⟨fs,hfs⟩:∃fs,fs=p'.fs:=⟨_,rfl⟩
    rw[<-hfs]at fin hfl hcap |-
    have hjfs:=hp'.tds.jk
    rw[<-hfs]at hjfs
    refine zrd zii ?_
    simp (disch:=omega) [zz,Z6,yY,VZ,hE1]
    intro b6 m1 m2 m3 m5 m4
    have m1':¬y=b6:=fun e=>m1 e.symm
    have m2':¬R=b6:=fun e=>m2 e.symm
    have m3':¬br=b6:=fun e=>m3 e.symm
    have m5':¬T=b6:=fun e=>m5 e.symm
    refine⟨by assumption,?_⟩
    refine zrd zii ?_
    simp (disch:=omega) [zz]
    refine jO.ofK [0,1,2,3,4,5,6,7,8,9,10] [0] [br] (by kernel_rfl) ?_
    simp (disch:=omega) [zz,hE1,n1,n2,n4,n1',n2',n4',n8,n9,n10,n8',n9',n10',m1,m2,m3,m1',m2',m3',m5,m5',qV,qJ]
    (repeat with_reducible refine om ?_)
    refine⟨fun hroom=>?_,fun hgrow=>?_⟩
    ·(repeat with_reducible refine om ?_)
     simp (disch:=omega) [zz,WY,UR,hrer,zH,Q7,n1,n2,n4,n1',n2',n4',n8,n9,n10,n8',n9',n10',m1,m2,m3,m1',m2',m3',m5,m5']
     rw[her,hrl _ _ _ hpar.symm has.symm hbo.symm]
     rw[show AV.erks (fs++AV.fn 110 [.ptr br .ptr [],.ptr b6 QQ []]::j.tail)=_ from hjfs.app (JK.cons rfl hj.tail),List.append_cons]
     refine fin b6 (.msl T 1 0 (fs.length+1) cap) [(T,.var (.arr cap 1) (.agg (fs++[_]++j.tail)))] _ (.inr ⟨T,cap,j.tail,hj.tail,by simp,by simp;omega,rfl⟩) (HSub.of_perm ?_)
     refine List.perm_iff_count.2 fun a=>?_
     simp only[List.count_append,List.count_cons,List.count_nil,QQ,xZ,kA,qV,qJ]
     omega
    ·intro b cap2 c1 c2 c3 c4 c7 c5 c6
     have c1':¬b6=b:=fun e=>c1 e.symm
     have c2':¬y=b:=fun e=>c2 e.symm
     have c3':¬R=b:=fun e=>c3 e.symm
     have c4':¬br=b:=fun e=>c4 e.symm
     have c7':¬T=b:=fun e=>c7 e.symm
     refine⟨c4,?_⟩
     (repeat with_reducible refine om ?_)
     simp (disch:=omega) [zz,n1,n2,n4,n1',n2',n4',n8,n9,n10,n8',n9',n10',m1,m2,m3,m1',m2',m3',m5,m5',c1,c2,c3,c4,c7,c1',c2',c3',c4',c7']
     simp (disch:=omega) [zz,WY,UR,hrer,zH,Q7,n1,n2,n4,n1',n2',n4',n8,n9,n10,n8',n9',n10',m1,m2,m3,m1',m2',m3',m5,m5',c1,c2,c3,c4,c7,c1',c2',c3',c4',c7']
     rw[her,hrl _ _ _ hpar.symm has.symm hbo.symm]
     rw[show AV.erks (fs++AV.fn 110 [.ptr br .ptr [],.ptr b6 QQ []]::List.replicate (cap2-(fs.length+1)) AV.nilfn)=_ from hjfs.app (JK.cons rfl (JK.rep rfl _)),List.append_cons]
     refine fin b6 (.msl b 1 0 (fs.length+1) cap2) [(b,.var (.arr cap2 1) (.agg (fs++[_]++List.replicate (cap2-(fs.length+1)) .nilfn)))] _ (.inr ⟨b,cap2,_,JK.rep rfl _,by simp,by simp;omega,rfl⟩) ⟨(T,.var (.arr cap 1) (.agg (AV.erks (fs++j))))::_,?_,(List.Sublist.refl _).cons _⟩
     refine List.perm_iff_count.2 fun a=>?_
     simp only[List.count_append,List.count_cons,List.count_nil,QQ,xZ,kA,qV,qJ]
     omega
  ·rw[hG]
   exact⟨p,by simpa[wN]using hp,hbr,by simp[wN]⟩
 ·rintro t H' ⟨rfl,H1,hg,rfl⟩ hnd3
  rw[hG]at hg
  obtain⟨p',hp',hbr',rfl⟩:=hg
  refine⟨rr,(c,bcO ls)::p'.core R _,HSub.of_perm (by rw[List.append_nil];exact List.Perm.swap _ _ _),by rw[hready];simp,?_⟩
  rw[hpend]
  have her:=(show qQ R _ (p'.core R _) from⟨p',hp',rfl⟩).er
  have hfin:wN r ((ls.reverse.take ls.length).map TdV.cmd)=WF env ls:=by
   rw[List.take_of_length_le (by simp)]
   simp[WF,wN,hr]
  rw[hfin]at her hp'
  rw[hfin]
  have hnd4:(q8.keys ((c,bcO ls)::(y,HObj.lrec rr i0 w1)::p'.core R (WF env ls))).Nodup:=by
   have:=hnd3
   rw[hfin,List.append_nil]at this
   exact this
  have h1:(c::y::(p'.core R (WF env ls)).keys).Nodup:=hnd4
  rw[List.nodup_cons,List.nodup_cons]at h1
  have hmb:(br,qV R)∈p'.core R (WF env ls):=zP.memS hbr'
  have hcb:¬c=br:=fun e=>h1.1 (List.mem_cons_of_mem _ (e▸List.mem_map.2 ⟨_,hmb,rfl⟩))
  have hgb:zZ (p'.core R (WF env ls)) br=some (qV R):=zep h1.2.2 hmb
  simp (disch:=omega) [zz,CY,hE1,hcb,hgb,qV,Tryz.f69,her]
  exact⟨p'.core R (WF env ls),HSub.of_sub ((List.Sublist.refl _).cons _),p',hp',rfl⟩
end
end Go.Proofs.YtdkieabmeiojjaaGreatDoor
