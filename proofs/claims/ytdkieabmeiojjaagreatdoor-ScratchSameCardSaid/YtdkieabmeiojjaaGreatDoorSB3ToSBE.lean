/- An action is brought to its outcome: the program. No condition. -/
import Derived.Test.YtdkieabmeiojjaaGreatDoorSB4ToSB2
set_option linter.unusedSimpArgs false
set_option linter.unusedVariables false
set_option linter.unusedSectionVars false
set_option maxHeartbeats 64000000
set_option maxRecDepth 100000
namespace Go.Proofs.YtdkieabmeiojjaaGreatDoor
open Go Go.Ab
open Classical
section
variable [Sel] [SelPow] [SelMax]
structure BrS where
 kn:List KnV
 b:zJ
 x:BdV
 H:q8
def zkw:AV:=.agg [.i .i64 0,.i .i64 0,.sl .full [],.sl .full []]
abbrev zpo:Cfg:=⟨fun _=>false,fun _=>false⟩
noncomputable def zmK (B O Y T X:Nat) (w:zV) (W:List Nat) (i:Nat) (x:BrS):St:=St.of [(0,.av .ptr (.ptr B BdT [])),(1,.av (.int .i64) (.i .i64 i)),(4,.loc 4 []),(7,.av .ptr (.ptr X UN [])),(9,.loc 9 []),(10,.av (.slice 97) (.sl (tkG 85 x.b.reads.length) (x.b.reads.map qX)))] [(4,(zhJ,zkw)),(9,(zhJ,zkw))] (fun j=>if j=85 then x.b.reads.length else 0) (x.H++bdH B O Y T w (W++[i]) x.x)
theorem KJ (B O Y T:Nat) (w:zV) (W:List Nat) (x:BdV):bdH B O Y T w W x=[(B,.var BdT (.agg [.agg [qL w.files,jP w.acts,.sl .no (strs w.wants),.b w.keep],.map (some O),.map (some Y),.map (some T)])),(O,.map 3 31 (ovE x.ov)),(Y,.map 3 4 (wyE W)),(T,.map 3 9 (wtE x.wt))]:=rfl
theorem cD (i:Nat) (v:AV):∀l:List (Nat × wZ),i∉l.map Prod.fst->K3 (.i .i64 (i:Int)) v (ovE l)=ovE l++[(.i .i64 (i:Int),v)]
 | [],_=>rfl
 | p::l,h=>by
  have h1:¬p.1=i:=fun e=>h (by simp[e])
  have h2:=cD i v l fun h'=>h (by simp at h';simp[h'])
  unfold ovE at h2 |-
  simp only[List.map_cons,K3,WV,List.cons_append,h1,if_false,h2]
theorem pA (l:List KH):AV.ers (l.map qX)=l.map qX:=by
 have h:=YA l
 simpa[zC,AV.er]using h
theorem gD (l:List QT):AV.ers (l.map wW)=l.map wW:=by
 have h:=ZT l
 simpa[jP,AV.er]using h
theorem zel {i:Nat} {p:Txt} {q:Nat × Txt}:∀ {l:List (Nat × Txt)},q∈C8 i p l->q.1=i\/q∈l
 | [],h=>by simp[C8]at h;simp[h]
 | x::l,h=>by
  unfold C8 at h
  split at h
  ·rcases List.mem_cons.1 h with h|h
   ·simp[h]
   ·simp[h]
  ·rcases List.mem_cons.1 h with h|h
   ·simp[h]
   ·rcases zel h with h|h
    ·simp[h]
    ·simp[h]
theorem zh8 (l:List (Nat × wZ)) (i:Nat) (k y:Int) (r:List KH):ovE l++[(.i .i64 (i:Int),.agg [.i .i64 k,.i .i64 y,.sl .no [],.sl .no (AV.ers (r.map qX))])]=ovE (l++[(i,⟨k,y,[],r⟩)]):=by
 rw[pA];simp[ovE,z7,qL,zC]
theorem zib (B O Y T:Nat) (w:zV) (hw:zd8 w) (W:List Nat) (i:Nat) (x:BdV) (hx:KN (qW w) w.acts.length W x) (hi:i<w.acts.length) (hW:i∉W) (hp:zgk (qW w) W i)
  (ih:∀j x,KN (qW w) w.acts.length (W++[i]) x->j<w.acts.length->j∉W++[i]->zgk (qW w) (W++[i]) j->BrC B O Y T w (W++[i]) j x):BrC B O Y T w W i x:=by
 refine q7.nodup fun hnd=>?_
 have hne:=zha hnd
 have n1:=hne.bo
 have n2:=hne.by'
 have n3:=hne.bt
 have n4:=hne.oy
 have n5:=hne.ot
 have n6:=hne.yt
 have m1:¬B=O:=fun e=>n1 e.symm
 have m2:¬B=Y:=fun e=>n2 e.symm
 have m3:¬B=T:=fun e=>n3 e.symm
 have m4:¬O=Y:=fun e=>n4 e.symm
 have m5:¬O=T:=fun e=>n5 e.symm
 have m6:¬Y=T:=fun e=>n6 e.symm
 refine q7.sub (R:=fun r H'=>∃x' H1,r=.av zhJ (z7 (kS (qW w) i))/\KN (qW w) w.acts.length W x'/\(∀j,j∈x.ov.map Prod.fst->j∈x'.ov.map Prod.fst)/\i∈x'.ov.map Prod.fst/\PQ (qW w) x x' i/\H'=bdH B O Y T w W x'++H1) ?_ (fun r H' ⟨x',H1,h1,h2,h3,h4,h6,h5⟩ _=>⟨bdH B O Y T w W x',HSub.of_sub (by rw[h5];exact List.sublist_append_left _ _),x',h1,h2,h3,h4,h6,rfl⟩)
 have hHe:=YD B O Y T w W x
 have hfo:=dP i x.ov
 refine q7.of_vcD laid mixed [some _,none,some _,some _] Tryz.func24 rfl zpo (by kernel_rfl) (by kernel_rfl) (by kernel_rfl) (by simp[Tryz.ntmps24]) fun imm0 w0=>?_
 by_cases hov:i∈x.ov.map Prod.fst
 ·obtain⟨p,hpm,hpi⟩:=List.mem_map.1 hov
  obtain⟨q,hq⟩:∃q,x.ov.find? (fun p=>decide (p.1=i))=some q:=by
   cases h:x.ov.find? (fun p=>decide (p.1=i))with
   | some q=>exact⟨q,rfl⟩
   | none =>
    rw[List.find?_eq_none]at h
    have:=h p hpm
    simp at this;exact absurd hpi this
  have hqi:q.1=i:=by simpa using List.find?_some hq
  have hqo:q.2=kS (qW w) i:=by rw[<-hqi];exact(hx.fin q (List.mem_of_find?_eq_some hq)).2
  rw[hq]at hfo
  simp only[Option.map_some,hqo]at hfo
  have heo:=Q5 (kS (qW w) i)
  simp (disch:=omega) [zz,D7,CV,zbR,KJ,n1,m1,hfo,Tryz.f24,heo]
  exact⟨x,hx,fun _ o h=>⟨o,h⟩,⟨p.2,by rw[<-hpi];exact hpm⟩,.refl _ _ _,rfl,rfl⟩
 ·have hnone:x.ov.find? (fun p=>decide (p.1=i))=none:=by
   rw[List.find?_eq_none]
   intro p hpm hpi
   exact hov (List.mem_map.2 ⟨p,hpm,by simpa using hpi⟩)
  rw[hnone]at hfo
  simp (disch:=omega) [zz,D7,CV,zbR,KJ,n1,m1,n2,m2,n4,m4,hfo,zh7 i W hW]
  have hHe2:=YD B O Y T w (W++[i]) x
  have hnew:=zod w.acts[i] (hw.a _ (List.getElem_mem hi)).b
  have hcs:=(hw.a _ (List.getElem_mem hi)).cs
  unfold zo6 at hnew
  rw[hcs]at hnew
  simp only at hnew
  have hea:=pC w.acts[i]
  simp (disch:=omega) [zz,ze9,zfk,n1,m1,n2,m2,n4,m4,hfo,zkY,jP,hi]
  refine qD (R:=fun r H'=>∃X,r=.tup [(.ptr,.ptr X UN []),(.int .i64,.i .i64 0)]/\ZY X (GO w.acts[i]) H') [] (bdH B O Y T w (W++[i]) x) (by exact List.Perm.refl _) rfl (by simp[qE]) (by simp) ?_ ?_
  ·simpa[TV.er,hea,GO,q8.er_nil]using hnew
  rintro r H1 ⟨X,rfl,hH⟩ hnd2
  refine⟨_,HSub.refl _,?_⟩
  simp (disch:=omega) [zz,VG]
  have hend:=(zcU hw hi).1
  have hb0:=CP hi
  have hcsA:=(hw.a _ (List.getElem_mem hi)).cs
  have haB:=(hw.a _ (List.getElem_mem hi)).b
  refine AT.loop' (α:=BrS) (zmK B O Y T X w W i) (fun y=>ZY X y.b y.H/\WN w.acts[i].env (gG w.acts[i]) w.acts[i].outs (QS w.acts[i]) y.kn y.b/\kL (kJ (qW w) (jL (qW w))) ((qW w).b0 i) y.b/\KN (qW w) w.acts.length (W++[i]) y.x/\(∀j,j∈x.ov.map Prod.fst->j∈y.x.ov.map Prod.fst)/\PQ (qW w) x y.x i/\xJ (qW w) i (y.x.ov.map Prod.fst++(W++[i])) y.b) (fun y=>600-y.kn.length) ⟨[],GO w.acts[i],x,H1⟩ ?_ ⟨hH,?_,?_,hx.begin hi hW hov,fun j h=>h,.refl _ _ _,by rw[<-CP hi];exact .start _ _ _⟩ ?_
  ·obtain⟨_,s1⟩:=(dV hcsA (env:=w.acts[i].env) (by have:=haB.be;omega) haB.bev w.acts[i].outs (QS w.acts[i])).s
   have hr0:(GO w.acts[i]).reads=[]:=s1.reads
   unfold zmK
   simp only[hr0,List.length_nil,List.map_nil]
   apply Le.of<;>simp[zR,qI,z6,tkG,zkw]<;>try omega
  ·exact dV hcsA (by have:=haB.be;omega) haB.bev _ _
  ·rw[hb0];exact .refl _
  rintro⟨kn,b,y,H2⟩ ⟨g1,g2,g3,g4,g5,g6,g7⟩ KL hN hE
  simp only at g1 g2 g3 g4 g5 g6 g7
  have hHe3:=YD B O Y T w (W++[i]) y
  have hask:=zn3 X g1
  have hni:=(g4.wn i (by simp)).2
  have hkeep:∀j o,(j,o)∈x.ov->∃o',(j,o')∈y.ov++[(i,kS (qW w) i)]:=fun j o h=>by
   obtain⟨q,q1,q2⟩:=List.mem_map.1 (g5 j (List.mem_map.2 ⟨_,h,rfl⟩))
   exact⟨q.2,List.mem_append_left _ (by rw[<-q2];exact q1)⟩
  have hbe:=g1.er
  unfold zmK
  refine zrd zpo ?_
  simp (disch:=omega) [zz]
  refine qD (R:=fun z H'=>z=.tup [(.str,.s (if b.over=true then [] else b.asks)),(.bool,.b (!b.over))]/\ZY X b H') H2 (bdH B O Y T w (W++[i]) y) (List.Perm.refl _) rfl (by simp[qE]) (by simp) ?_ ?_
  ·rw[hbe];simpa[TV.er,AV.er]using hask
  rintro z H3 ⟨rfl,hB3⟩ _
  refine⟨_,HSub.refl _,?_⟩
  have hbe3:=hB3.er
  by_cases ho:b.over=true
  ·have hers:(z7 (ZH b).1).er=z7 (ZH b).1:=Q5 _
   have hout:=zfA X hB3 (by have:=g2.rl;omega) (g2.wl haB.bo)
   obtain⟨f1,f2⟩:=zeA hend g3 ho
   rw[<-f1]at hout hers
   rw[if_pos ho,ho]
   simp (disch:=omega) [zz]
   refine qD (R:=fun z H'=>z=.tup [(zhJ,z7 (kS (qW w) i)),(.bool,.b (ZH b).2)]/\ZY X b H') H3 (bdH B O Y T w (W++[i]) y) (List.Perm.refl _) rfl (by simp[qE]) (by simp) ?_ ?_
   ·rw[hbe3];simpa[TV.er,AV.er]using hout
   rintro z H4 ⟨rfl,hB4⟩ _
   refine⟨bdH B O Y T w (W++[i]) y++H4,HSub.of_perm List.perm_append_comm,?_⟩
   have hbe4:=hB4.er
   simp (disch:=omega) [zz]
   refine hE _ _ (by simp) ?_
   simp (disch:=omega) [zz,VG,KJ,n1,n2,n3,n4,n5,n6,m1,m2,m3,m4,m5,m6,zhj i (kS (qW w) i) y.ov hni,dD i W hW,jP,Tryz.f24]
   have hdone:=g4.done y.wt (fun _ _=>rfl) (fun h=>by rw[f2]at h;cases h) g4.wt (g7.over ho)
   exact⟨by kernel_rfl,_,hdone,fun j o h=>hkeep j o h,⟨_,List.mem_append_right _ (List.mem_singleton.2 rfl)⟩,g6.done _ _,gD _,rfl,rfl⟩
  ·have ho':b.over=false:=by simpa using ho
   have hasl:b.asks.length<=1040:=g2.askl ho'
   have hcome:=ze5 B O Y T w hw (W++[i]) b.asks y g4 fun j hm hj=>by
    obtain⟨hjn,_⟩:=zaj hm
    exact ih j y g4 hjn hj (hp.cons ⟨b.asks,⟨b,g3,ho',rfl⟩,hm⟩)
   rw[if_neg ho,ho']
   simp (disch:=omega) [zz]
   refine qD (R:=ziV B O Y T w (W++[i]) b.asks y) (bdH B O Y T w (W++[i]) y) H3 List.perm_append_comm rfl (by simp[qE]) (by simp) ?_ ?_
   ·rw[hHe3];simpa[TV.er,AV.er]using hcome
   rintro z H4 ⟨y2,rfl,e1,e2,e3,e4,rfl⟩ _
   have g62:=g6.step e4 ⟨b,g3,ho',rfl⟩
   have hmk2:∀j,(qW w).who b.asks=some j->j∈y2.ov.map Prod.fst++(W++[i]):=fun j hj=>List.mem_append.2 (e3 j hj).symm
   have g72:=g7.mono (L':=y2.ov.map Prod.fst++(W++[i])) fun j hj=>(List.mem_append.1 hj).elim (fun h=>List.mem_append_left _ (e2 j h)) fun h=>List.mem_append_right _ h
   refine⟨_,HSub.refl _,?_⟩
   have hni2:=(e1.wn i (by simp)).2
   have hkeep2:∀j o,(j,o)∈x.ov->∃o',(j,o')∈y2.ov++[(i,kS (qW w) i)]:=fun j o h=>by
    obtain⟨q,q1,q2⟩:=List.mem_map.1 (e2 j (g5 j (List.mem_map.2 ⟨_,h,rfl⟩)))
    exact⟨q.2,List.mem_append_left _ (by rw[<-q2];exact q1)⟩
   have hHe4:=YD B O Y T w (W++[i]) y2
   rcases zfy hp hend g3 ho' with⟨c1,c2⟩|⟨c1,c2,c5⟩|⟨c1,c2,⟨c3,c4⟩,c5⟩
   ·rw[c1]
    obtain⟨k,hk⟩:∃k,k=(JD (qW w) (W++[i]) b.asks).1:=⟨_,rfl⟩
    rw[<-hk]at c2 |-
    obtain⟨hkp,hkd⟩:=zgE hw _ _ c2
    have hke:=(cP k).1
    simp (disch:=omega) [zz]
    refine qO (zk1 k (by omega)) rfl rfl (by simp[qE]) (by simp[qR,TV.er,AV.er,hke]) ?_
    simp (disch:=omega) [zz]
    have hrl:=g2.rl
    have hgv:=ziU X hB3 g2.g k (by omega) (by omega) (fun h1 h2 h3=>g2.can k h1 h2 (fun _=>hkd))
    obtain⟨v1,v2⟩:=g2.give k ho' hkp (fun _=>hkd)
    have hrd:(y4 k b).2.reads=b.reads++[QW k]:=by
     obtain⟨_,s1⟩:=g2.s
     obtain⟨_,s2⟩:=v2.s
     rw[s1.reads,s2.reads];simp
    refine xQ (by simp) (by simp;omega) (by simp;omega) (by simp) (by simp) ?_
    simp (disch:=omega) [zz]
    refine qD (R:=fun z H'=>z=.av (.int .i64) (.i .i64 (y4 k b).1)/\ZY X (y4 k b).2 H') H3 (bdH B O Y T w (W++[i]) y2) List.perm_append_comm rfl (by simp[qE]) (by simp) ?_ ?_
    ·rw[hbe3];simpa[TV.er,AV.er,hke]using hgv
    rintro z H5 ⟨rfl,hB5⟩ _
    refine⟨_,HSub.refl _,?_⟩
    simp (disch:=omega) [zz]
    have hkl:(kn++[k]).length<=500:=by
     have:=v2.rl
     obtain⟨_,s2⟩:=v2.s
     rw[s2.reads]at this;simpa using this
    refine hN _ ⟨kn++[k],(y4 k b).2,y2,H5⟩ ?_ ⟨hB5,v2,g3.snoc ho' c2,e1,fun j h=>e2 j (g5 j h),g62,g72.step c2 hmk2⟩ (by simp at hkl |-;omega)
    unfold zmK
    simp only[hrd,List.length_append,List.length_singleton,List.map_append,List.map_cons,List.map_nil]
    apply Le.of<;>simp[zR,qI,z6]<;>try omega
    all_goals (intro j;by_cases hj:j=85<;>simp[hj])
   ·rw[c1]
    simp (disch:=omega) [zz]
    refine hE _ _ (by simp) ?_
    simp (disch:=omega) [zz,VG,KJ,n1,n2,n3,n4,n5,n6,m1,m2,m3,m4,m5,m6,cD i _ y2.ov hni2,dD i W hW,jP,Tryz.f24]
    have hdone:=e1.done y2.wt (fun _ _=>rfl) (fun h=>by
     exfalso
     rcases D1 (qW w) i with⟨h1,_⟩|⟨h1,_⟩
     ·rw[c2]at h1;simp at h1
     ·rw[h]at h1;cases h1) e1.wt (g72.stop c5 hmk2)
    exact⟨by kernel_rfl,by rw[c2,pA];rfl,_,hdone,hkeep2,⟨_,List.mem_append_right _ (List.mem_singleton.2 rfl)⟩,g62.done _ _,gD _,by rw[zh8,c2],rfl⟩
   ·rw[c1]
    simp (disch:=omega) [zz,KJ,n1,n2,n3,n4,n5,n6,m1,m2,m3,m4,m5,m6,zgR]
    refine hE _ _ (by simp) ?_
    simp (disch:=omega) [zz,VG,KJ,n1,n2,n3,n4,n5,n6,m1,m2,m3,m4,m5,m6,cD i _ y2.ov hni2,dD i W hW,jP,Tryz.f24]
    have hdone:=e1.done (C8 i b.asks y2.wt) (fun j hj=>by rw[GH,if_neg hj]) (fun _=>by
     rw[GH,if_pos rfl,c4]
     refine⟨rfl,?_⟩
     cases hm:(qW w).who b.asks with
     | none=>unfold JD at c1;rw[hm]at c1;simp at c1
     | some m=>exact⟨m,rfl,(e3 m hm).symm⟩) (fun q hq=>by
     rcases zel hq with h|h
     ·exact .inr (by rw[h];simp)
     ·exact e1.wt q h) (g72.stop c5 hmk2)
    exact⟨by kernel_rfl,by rw[c2,pA];rfl,_,hdone,hkeep2,⟨_,List.mem_append_right _ (List.mem_singleton.2 rfl)⟩,g62.done _ _,gD _,by rw[zh8,c2],rfl⟩
theorem zbn (B O Y T:Nat) (w:zV) (hw:zd8 w):∀(m:Nat) (W:List Nat) (i:Nat) (x:BdV),w.acts.length-W.length<=m->KN (qW w) w.acts.length W x->i<w.acts.length->i∉W->zgk (qW w) W i->BrC B O Y T w W i x
 | 0,W,i,x,hm,hx,hi,hW,hp=>by have:=hx.room hi hW;omega
 | m+1,W,i,x,hm,hx,hi,hW,hp=>zib B O Y T w hw W i x hx hi hW hp fun j y hy hj hjW hpj=>zbn B O Y T w hw m (W++[i]) j y (by simp;omega) hy hj hjW hpj
theorem zeD (B O Y T:Nat) (w:zV) (hw:zd8 w) (i:Nat) (x:BdV) (hx:KN (qW w) w.acts.length [] x) (hi:i<w.acts.length):BrC B O Y T w [] i x :=
 zbn B O Y T w hw _ [] i x (Nat.le_refl _) hx hi (by simp) fun w hw=>by simp at hw
noncomputable abbrev CZ:TyD:=q9 Tryz.prog 37
theorem KN.none (S:wB) (n:Nat):KN S n [] ⟨[],[]⟩ where
 fin:=fun p h=>by simp at h
 nd:=by simp
 st:=fun p h=>by simp at h
 wnd:=by simp
 wn:=fun p h=>by simp at h
 wt:=fun p h=>by simp at h
 cl:=fun p h=>by simp at h
abbrev zpM:Cfg:=⟨fun n=>n==8,fun _=>false⟩
theorem zbT (w:zV):q7 Tryz.prog 23 [.av CZ (yV w)] [] fun r H'=>∃B O Y T,r=.av .ptr (.ptr B BdT [])/\H'=bdH B O Y T w [] ⟨[],[]⟩:=by
 have hea:=ZT w.acts
 have hef:=j6 w.files
 refine q7.sub (R:=fun r H'=>∃B O Y T,r=.av .ptr (.ptr B BdT [])/\H'=[(B,bdO w O Y T),(T,.map 3 9 []),(Y,.map 3 4 []),(O,.map 3 31 [])]) ?_ (fun r H' ⟨B,O,Y,T,h1,h2⟩ _=>⟨bdH B O Y T w [] ⟨[],[]⟩,HSub.of_perm (by rw[h2];exact List.Perm.cons _ (List.reverse_perm [_,_,_])),B,O,Y,T,h1,rfl⟩)
 refine zov Tryz.func23 zpM fun imm0 w0=>?_
 (simp (maxSteps:=2000000) (disch:=first|omega|assumption) [zz,-List.reduceReplicate,yV])
 intro O Y hY T hT1 hT2 B hB1 hB2 hB3
 (simp (maxSteps:=2000000) (disch:=first|omega|assumption) [zz,-List.reduceReplicate,Tryz.f23])
 exact⟨O,Y,T,rfl,rfl,rfl,rfl⟩
noncomputable def goC:Nat->List Txt->List QT->Int × Nat
 | _,_,[]=>(0,0)
 | k,L,a::r=>if pF a L=0 then goC (k+1) (L++a.outs) r else(pF a L,k)
noncomputable def gO (l:List QT):Int × Nat:=if 500<l.length then(6,0) else goC 0 [] l
theorem zoA (L:List Txt):(obO L).er=obO L:=by simp[obO,HObj.er_map,obE,AV.er,Function.comp_def]
theorem ziM (l:List QT) (hl:∀a∈l,zoy a) (hn:l.length<=1000000000) :
  PC Tryz.prog 47 [.av (.slice 49) (jP l)] (.tup [(.int .i64,.i .i64 (gO l).1),(.int .i64,.i .i64 ((gO l).2:Nat))]):=by
 refine q7.sub (R:=fun r H'=>r=.tup [(.int .i64,.i .i64 (gO l).1),(.int .i64,.i .i64 ((gO l).2:Nat))]) ?_ (fun r H' hr _=>⟨[],HSub.of_sub (List.nil_sublist _),hr,rfl⟩)
 obtain⟨V,hV⟩:∃V,V=gO l:=⟨_,rfl⟩
 rw[<-hV]
 unfold gO at hV
 refine zov Tryz.func47 cf0 fun imm0 w0=>?_
 by_cases h5:500<l.length
 ·have h5':(500:Int)<l.length:=by omega
  rw[if_pos h5]at hV
  subst hV
  simp (disch:=omega) [zz,jP,h5',Tryz.f47]
 have h5':¬(500:Int)<l.length:=by omega
 rw[if_neg h5]at hV
 simp (disch:=omega) [zz,jP,h5']
 intro M
 refine AT.loop' (α:=Nat) (fun k=>St.of [(4,.av (.map 9 4) (.map (some M))),(12,.av (.slice 49) (jP l)),(13,.av (.int .i64) (.i .i64 l.length)),(14,.av (.int .i64) (.i .i64 k))] [] (fun _=>0) [(M,obO ((l.take k).flatMap (·.outs)))])
  (fun k=>k<=l.length/\V=goC k ((l.take k).flatMap (·.outs)) (l.drop k)) (fun k=>l.length-k) 0 ?_ ?_ ?_
 ·apply Le.of<;>simp[zR,qI,z6,jP,obO,obE]<;>try omega
 ·exact⟨by omega,by simpa using hV⟩
 rintro k ⟨hk,hgo⟩ KL hN hE
 refine zrd cf0 ?_
 by_cases hlt:k<l.length
 ·have hlt':(k:Int)<l.length:=by omega
  have hg:=kG wW l k hlt
  have hac:=hl _ (List.getElem_mem hlt)
  have htk:l.take (k+1)=l.take k++[l[k]]:=List.take_succ_eq_append_getElem hlt
  rw[List.drop_eq_getElem_cons hlt]at hgo
  obtain⟨a,ha⟩:∃a,a=l[k]:=⟨_,rfl⟩
  rw[<-ha]at hg hac htk hgo
  obtain⟨L,hL⟩:∃L,L=(l.take k).flatMap (·.outs):=⟨_,rfl⟩
  have hL2:(l.take (k+1)).flatMap (·.outs)=L++a.outs:=by rw[htk,hL];simp
  rw[<-hL]at hgo |-
  have hae:=pC a
  have hlk:=zlM a hac M L
  have hoe:=zoA L
  simp (disch:=omega) [zz,hlt',hg,jP]
  (repeat with_reducible refine om ?_)
  refine qD (R:=fun r H'=>r=.av (.int .i64) (.i .i64 (pF a L))/\∃L2,H'=[(M,obO L2)]/\(pF a L=0->L2=L++a.outs)) [(M,obO L)] [] (by simp) rfl (by simp[qE]) (by simp) ?_ ?_
  ·simpa[TV.er,AV.er,hae,q8.er_cons,q8.er_nil,hoe]using hlk
  rintro r H' ⟨rfl,L2,rfl,h2⟩ _
  refine⟨[(M,obO L2)],by simpa using HSub.refl _,?_⟩
  unfold goC at hgo
  by_cases h0:pF a L=0
  ·rw[if_pos h0]at hgo
   rw[h2 h0]
   simp (disch:=omega) [zz,h0]
   (repeat with_reducible refine om ?_)
   refine hN _ (k+1) ?_ ⟨by omega,by rw[hL2];exact hgo⟩ (by omega)
   apply Le.of<;>simp[zR,qI,z6,hL2,jP]<;>try omega
  ·rw[if_neg h0]at hgo
   simp (disch:=omega) [zz,h0]
   (repeat with_reducible refine om ?_)
   refine hE _ _ (by simp) ?_
   simp (disch:=omega) [zz,Tryz.f47,hgo]
 ·have hlt':¬(k:Int)<l.length:=by omega
  rw[List.drop_of_length_le (by omega)]at hgo
  simp (disch:=omega) [zz,hlt',jP]
  refine hE _ _ (by simp) ?_
  simp (disch:=omega) [zz,Tryz.f47,hgo,goC]
noncomputable def X0 (w:zV):Int :=
 if XW w.files≠0 then XW w.files else if (gO w.acts).1≠0 then(gO w.acts).1 else
 if 1000<w.wants.length then 6 else if w.wants.all w5=true then 0 else 1
structure WkC (w:zV):Prop where
 f:∀f∈w.files,f.path.length<=2000000
 fn:w.files.length<=1000000000
 a:∀a∈w.acts,zoy a
 an:w.acts.length<=1000000000
 p:∀p∈w.wants,p.length<=2000000
 wn:w.wants.length<=1000000000
theorem zbJ (w:zV) (hw:WkC w):PC Tryz.prog 22 [.av CZ (yV w)] (.av (.int .i64) (.i .i64 (X0 w))):=by
 have hf:=ziQ w.files hw.fn (fun f hf=>by have:=hw.f f hf;omega)
 have ha:=ziM w.acts hw.a hw.an
 have hea:=ZT w.acts
 have hef:=j6 w.files
 have hwn:=hw.wn
 obtain⟨V,hV⟩:∃V,V=X0 w:=⟨_,rfl⟩
 rw[<-hV]
 unfold X0 at hV
 refine zow Tryz.func22 cf0 fun imm0 w0=>?_
 simp (disch:=omega) [zz,yV]
 refine qO hf rfl rfl (by simp) (by simp[qR,TV.er,AV.er,hef]) ?_
 by_cases h1:XW w.files=0
 rotate_left
 ·rw[if_pos h1]at hV
  simp (disch:=omega) [zz,h1,Tryz.f22,hV]
 rw[if_neg (by simp[h1])]at hV
 simp (disch:=omega) [zz,h1]
 refine qO ha rfl rfl (by simp) (by simp[qR,TV.er,AV.er,hea]) ?_
 by_cases h2:(gO w.acts).1=0
 rotate_left
 ·rw[if_pos h2]at hV
  simp (disch:=omega) [zz,h2,Tryz.f22,hV]
 rw[if_neg (by simp[h2])]at hV
 by_cases h3:1000<w.wants.length
 ·have h3':(1000:Int)<w.wants.length:=by omega
  rw[if_pos h3]at hV
  simp (disch:=omega) [zz,h2,h3',Tryz.f22,hV]
 have h3':¬(1000:Int)<w.wants.length:=by omega
 rw[if_neg h3]at hV
 simp (disch:=omega) [zz,h2,h3']
 refine AT.loop' (α:=Nat) (fun k=>St.of [(28,.av (.slice 9) (.sl .no (strs w.wants))),(29,.av (.int .i64) (.i .i64 w.wants.length)),(30,.av (.int .i64) (.i .i64 k))] [] (fun _=>0) [])
  (fun k=>k<=w.wants.length/\∀j (hj:j<w.wants.length),j<k->w5 w.wants[j]=true) (fun k=>w.wants.length-k) 0 ?_ ?_ ?_
 ·apply Le.of<;>simp[zR,qI,z6]<;>try omega
 ·exact⟨by omega,fun j hj h=>by omega⟩
 rintro k ⟨hk,hall⟩ KL hN hE
 refine zrd cf0 ?_
 by_cases hlt:k<w.wants.length
 ·have hlt':(k:Int)<w.wants.length:=by omega
  have hg:=kG AV.s w.wants k hlt
  have hm:=YW w.wants[k] (by have:=hw.p _ (List.getElem_mem hlt);omega)
  obtain⟨p,hp⟩:∃p,p=w.wants[k]:=⟨_,rfl⟩
  rw[<-hp]at hg hm
  simp (disch:=omega) [zz,hlt',hg,strs]
  (repeat with_reducible refine om ?_)
  refine zcv hm ?_
  cases hmv:w5 p with
  | true =>
   simp (disch:=omega) [zz]
   (repeat with_reducible refine om ?_)
   refine hN _ (k+1) ?_ ⟨by omega,fun j hj h=>?_⟩ (by omega)
   ·apply Le.of<;>simp[zR,qI,z6,strs]<;>try omega
   ·rcases Nat.lt_or_ge j k with h1|h1
    ·exact hall j hj h1
    ·have:j=k:=by omega
     subst this;rw[<-hp];exact hmv
  | false =>
   have hno:¬w.wants.all w5=true:=fun h=>by
    have:=List.all_eq_true.1 h p (by rw[hp];exact List.getElem_mem hlt)
    rw[hmv]at this;cases this
   rw[if_neg hno]at hV
   simp (disch:=omega) [zz]
   (repeat with_reducible refine om ?_)
   refine hE _ _ (by simp) ?_
   simp (disch:=omega) [zz,Tryz.f22,hV]
 ·have hlt':¬(k:Int)<w.wants.length:=by omega
  have hyes:w.wants.all w5=true:=List.all_eq_true.2 fun p hp=>by
   obtain⟨j,hj,rfl⟩:=List.getElem_of_mem hp
   exact hall j hj (by omega)
  rw[if_pos hyes]at hV
  simp (disch:=omega) [zz,hlt']
  refine hE _ _ (by simp) ?_
  simp (disch:=omega) [zz,Tryz.f22,hV]
end
end Go.Proofs.YtdkieabmeiojjaaGreatDoor
