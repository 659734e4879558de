/- The document's answer for a journal: the program. No condition. -/
import Derived.Test.YtognnffjdckalaaGreatDoorKJ1ToKJ3
set_option linter.unusedSimpArgs false
set_option linter.unusedVariables false
set_option linter.unusedSectionVars false
set_option maxHeartbeats 64000000
set_option maxRecDepth 100000
namespace Go.Proofs.YtognnffjdckalaaGreatDoor
open Go Go.Ab
open Classical
section
variable [Sel] [SelPow] [SelErr]
noncomputable abbrev RjT:TyD:=q8 Tryz.prog 35
def rjE (j:JV):AV:=.agg [rdE j.d,.s nmK,.b true,.b j.br]
theorem XY (j:JV):(rjE j).er=rjE j:=by simp[rjE,AV.er,AV.ers,jX]
theorem zd4 (r:List UInt8) (hr:r.length<=10000000000):PC Tryz.prog 107 [.av .str (.s r)] (.tup [(.str,.s (if 1048576<r.length then [] else frame r)),(.int .i64,.i .i64 (if 1048576<r.length then 6 else 0))]):=by
 have hh:=zgf r hr
 have hl:=pY r
 refine zow Tryz.func107 cf0 fun imm0 w0=>?_
 by_cases h:1048576<r.length
 ·have h':(1048576:Int)<r.length:=by omega
  simp (disch:=omega) [zz,h,h',Tryz.f107]
 ·have h':¬(1048576:Int)<r.length:=by omega
  simp (disch:=omega) [zz,h,h']
  refine zcv hh ?_
  simp (disch:=omega) [zz,hl,Tryz.f107,frame,h]
  omega
def zf8 (l:List (List UInt8)):Bool:=l.any fun r=>decide (1048576<r.length)
theorem zhy (l:List (List UInt8)) (hl:wtR l<=10000000000):PC Tryz.prog 119 [.av (.slice 9) (.sl .no (qG l))] (.tup [(.str,.s (if zf8 l=true then [] else qJ l)),(.int .i64,.i .i64 (if zf8 l=true then 6 else 0))]):=by
 have hll:=V0 l
 refine zow Tryz.func119 cf0 fun imm0 w0=>?_
 simp (disch:=omega) [zz]
 refine AT.loop' (α:=Nat) (fun k=>St.of [(0,.av (.slice 9) (.sl .no (qG l))),(4,.av .str (.s (qJ (l.take k)))),(9,.av (.int .i64) (.i .i64 l.length)),(10,.av (.int .i64) (.i .i64 k))] [] (fun _=>0) [])
  (fun k=>k<=l.length/\∀r∈l.take k,r.length<=1048576) (fun k=>l.length-k) 0 ?_ ?_ ?_
 ·apply Le.of<;>simp[le9,qJ]<;>try omega
 ·simp
 rintro k ⟨hk,hs⟩ KL hN hE
 refine zrd cf0 ?_
 by_cases hlt:k<l.length
 ·have hlt':(k:Int)<l.length:=by omega
  have hg:=KC l k hlt
  have hwt:=zf9 l k hlt
  have hwl:=zmy l (k+1)
  have hfr:=zd4 l[k] (by omega)
  have hft:=D3 l k hlt
  have hfl2:=ZL (l.take k)
  have hfl3:=QD l[k]
  have htk:l.take (k+1)=l.take k++[l[k]]:=List.take_succ_eq_append_getElem hlt
  have hmem:=List.getElem_mem hlt
  have hslen:(qG l).length=l.length:=wP l
  obtain⟨r,hr⟩:∃r,r=l[k]:=⟨_,rfl⟩
  rw[<-hr]at hg hwt hfr hft hfl3 htk hmem
  have hgg:(qG l)[k]'(by rw[hslen];exact hlt)=.s r:=by
   rw[List.getElem?_eq_getElem (by rw[hslen];exact hlt)]at hg
   exact Option.some.inj hg
  by_cases hb:1048576<r.length
  ·have hbig:zf8 l=true:=List.any_eq_true.2 ⟨r,hmem,by simpa using hb⟩
   rw[if_pos hb,if_pos hb]at hfr
   simp (disch:=omega) [zz,hlt',hgg,hslen,hlt]
   refine zcv hfr ?_
   simp (disch:=omega) [zz]
   refine hE _ _ (by simp) ?_
   simp (disch:=omega) [zz,Tryz.f119,hbig]
  ·rw[if_neg hb,if_neg hb]at hfr
   simp (disch:=omega) [zz,hlt',hgg,hslen,hlt]
   refine zcv hfr ?_
   simp (disch:=omega) [zz]
   refine⟨by omega,hN _ (k+1) ?_ ⟨by omega,fun x hx=>?_⟩ (by omega)⟩
   ·apply Le.of<;>simp[le9,hft]<;>try omega
   ·rw[htk]at hx
    rcases List.mem_append.1 hx with hx|hx
    ·exact hs x hx
    ·rw[List.mem_singleton.1 hx];omega
 ·have hlt':¬(k:Int)<l.length:=by omega
  have htk:l.take k=l:=List.take_of_length_le (by omega)
  rw[htk]at hs
  have hbig:zf8 l=false:=by
   unfold zf8
   rw[List.any_eq_false]
   intro r hr
   have:=hs r hr
   simp;omega
  simp (disch:=omega) [zz,hlt']
  refine hE _ _ (by simp) ?_
  simp (disch:=omega) [zz,Tryz.f119,hbig,htk]
theorem zcJ (d:DV) (hd:DOK d):PC Tryz.prog 75 [.av RdT (rdE d),.av .str (.s nmK)] (.tup [(RdT,rdE (zL d).1),(.int .i64,.i .i64 (zL d).2)]):=by
 have hl:=WH d
 have hat:=XG (flD d) d.left nmN (by omega)
 have hrm:=zeF d hd
 have e0:rdE d=jP (flD d) d.left:=rfl
 have e1:=jX d
 rw[<-e0]at hat
 have e2:=jX (jN d).1
 refine zow Tryz.func75 cf0 fun imm0 w0=>?_
 simp (disch:=omega) [zz,nmK]
 refine YE hat rfl rfl (by simp) (by simp[q9,TV.er,AV.er,e1,nmN]) ?_
 rcases P0 true d with⟨hg,ha⟩|⟨f,hg,i,ha,hgi⟩
 ·have ht:zL d=(d,0):=by unfold zL;rw[if_neg (by rw[show d.n=none from hg];simp)]
  rw[show nmN=nmB true from rfl,ha]
  simp (disch:=omega) [zz,Tryz.f75,ht,e1]
 ·have ht:zL d=jN d:=by unfold zL;rw[if_pos (by rw[show d.n=some f from hg];rfl)]
  rw[show nmN=nmB true from rfl,ha]
  simp (disch:=omega) [zz]
  refine YE hrm rfl rfl (by simp) (by simp[q9,TV.er,AV.er,e1,nmN]) ?_
  simp (disch:=omega) [zz,Tryz.f75,ht,e2]
theorem zgS (x:List UInt8) (d:DV) (hd:DOK d) (hx:szF d.n+x.length<=1000000000000):PC Tryz.prog 78 [.av RdT (rdE d),.av .str (.s nmK),.av .str (.s x)] (.tup [(RdT,rdE (kC x d).1),(.int .i64,.i .i64 (kC x d).2)]):=by
 have hap:=uD true x d hd hx
 have hd1:=JZ (b:=true) (x:=x) hd
 have hsy:=CM true (qW true x d).1 hd1 (by have:=dE x d;exact Nat.le_trans this hx)
 have hd2:=zax (b:=true) hd1
 have hrn:=zek (jE true (qW true x d).1).1 hd2
 have ha:kC x d=thn (thn (qW true x d) (jE true)) jL:=rfl
 have e0:=jX d
 have e1:=jX (qW true x d).1
 have e2:=jX (jE true (qW true x d).1).1
 have e3:=jX (jL (jE true (qW true x d).1).1).1
 refine zow Tryz.func78 cf0 fun imm0 w0=>?_
 simp (disch:=omega) [zz,nmK]
 refine YE hap rfl rfl (by simp) (by simp[q9,TV.er,AV.er,e0,nmB,nmN]) ?_
 by_cases h1:(qW true x d).2=0
 rotate_left
 ·rw[VN _ h1,VN _ h1]at ha
  simp (disch:=omega) [zz,Tryz.f78,ha,h1,e1]
 rw[dK _ h1]at ha
 simp (disch:=omega) [zz,h1]
 refine YE hsy rfl rfl (by simp) (by simp[q9,TV.er,AV.er,e1,nmB,nmN]) ?_
 by_cases h2:(jE true (qW true x d).1).2=0
 rotate_left
 ·rw[VN _ h2]at ha
  simp (disch:=omega) [zz,Tryz.f78,ha,h2,e2]
 rw[dK _ h2]at ha
 simp (disch:=omega) [zz,h2]
 refine YE hrn rfl rfl (by simp) (by simp[q9,TV.er,AV.er,e2,nmK,nmN]) ?_
 simp (disch:=omega) [zz,Tryz.f78,ha,e3]
theorem zcW (r:List UInt8) (j:JV) (hd:DOK j.d) (hx:szF j.d.m+r.length<=10000000000):PC Tryz.prog 49 [.av RjT (rjE j),.av .str (.s r)] (.tup [(RjT,rjE (addJ r j).1),(.int .i64,.i .i64 (addJ r j).2)]):=by
 obtain⟨d,br⟩:=j
 simp only at hd hx
 have e0:=jX d
 cases br with
 | true =>
  have ha:addJ r ⟨d,true⟩=(⟨d,true⟩,19):=by unfold addJ;rw[if_pos rfl]
  refine zow Tryz.func49 cf0 fun imm0 w0=>?_
  simp (disch:=omega) [zz,rjE,ha,Tryz.f49,e0]
 | false =>
 have hfr:=zd4 r (by omega)
 by_cases hb:1048576<r.length
 ·have ha:addJ r ⟨d,false⟩=(⟨d,false⟩,6):=by unfold addJ;rw[if_neg (by simp),if_pos hb]
  rw[if_pos hb,if_pos hb]at hfr
  refine zow Tryz.func49 cf0 fun imm0 w0=>?_
  simp (disch:=omega) [zz,rjE]
  refine zcv hfr ?_
  simp (disch:=omega) [zz,Tryz.f49,ha,rjE,e0]
 have hfl:=QD r
 have hap:=uD false (frame r) d hd (by show szF d.m+_<=_;omega)
 have hd1:=JZ (b:=false) (x:=frame r) hd
 have hsy:=CM false (qW false (frame r) d).1 hd1 (by have:=dD (frame r) d;show szF (qW false (frame r) d).1.m<=_;omega)
 have ha:addJ r ⟨d,false⟩=(⟨(thn (qW false (frame r) d) (jE false)).1,decide ((thn (qW false (frame r) d) (jE false)).2≠0)⟩,(thn (qW false (frame r) d) (jE false)).2):=by unfold addJ;rw[if_neg (by simp),if_neg hb]
 rw[if_neg hb,if_neg hb]at hfr
 have e1:=jX (qW false (frame r) d).1
 have e2:=jX (jE false (qW false (frame r) d).1).1
 refine zow Tryz.func49 cf0 fun imm0 w0=>?_
 simp (disch:=omega) [zz,rjE]
 refine zcv hfr ?_
 simp (disch:=omega) [zz]
 refine YE hap rfl rfl (by simp) (by simp[q9,TV.er,AV.er,e0,nmB]) ?_
 by_cases h1:(qW false (frame r) d).2=0
 rotate_left
 ·rw[VN _ h1]at ha
  simp (disch:=omega) [zz,Tryz.f49,ha,h1,e1,rjE]
 rw[dK _ h1]at ha
 simp (disch:=omega) [zz,h1]
 refine YE hsy rfl rfl (by simp) (by simp[q9,TV.er,AV.er,e1,nmB]) ?_
 simp (disch:=omega) [zz,Tryz.f49,ha,e2,rjE]
theorem zhh (l:List (List UInt8)) (hl:wtR l<=10000000000) (j:JV) (hd:DOK j.d) (hn:szF j.d.n<=10000000000):PC Tryz.prog 59 [.av RjT (rjE j),.av (.slice 9) (.sl .no (qG l))] (.tup [(RjT,rjE (swapJ l j).1),(.int .i64,.i .i64 (swapJ l j).2)]):=by
 obtain⟨d,br⟩:=j
 simp only at hd hn
 have e0:=jX d
 have hse:AV.ers (qG l)=qG l:=by simp[qG,AV.ers_eq,Function.comp_def,AV.er]
 cases br with
 | true =>
  have ha:swapJ l ⟨d,true⟩=(⟨d,true⟩,19):=by unfold swapJ;rw[if_pos rfl]
  refine zow Tryz.func59 cf0 fun imm0 w0=>?_
  simp (disch:=omega) [zz,rjE,ha,Tryz.f59,e0]
 | false =>
 have hfr:=zhy l hl
 by_cases hb:zf8 l=true
 ·have ha:swapJ l ⟨d,false⟩=(⟨d,false⟩,6):=by unfold swapJ;rw[if_neg (by simp)];unfold zf8 at hb;rw[if_pos hb]
  rw[if_pos hb,if_pos hb]at hfr
  refine zow Tryz.func59 cf0 fun imm0 w0=>?_
  simp (disch:=omega) [zz,rjE]
  refine YE hfr rfl rfl (by simp) (by simp[q9,TV.er,AV.er,Tok.k,hse]) ?_
  simp (disch:=omega) [zz,Tryz.f59,ha,rjE,e0]
 have hfl:=ZL l
 have hcl:=zcJ d hd
 have hd1:=GU hd
 have hsn:szF (zL d).1.n<=10000000000:=by
  unfold zL jN
  cases hc:d.n with
  | none=>simp[hc,szF]
  | some f =>
   simp only[Option.isSome_some,if_true]
   split
   ·exact hn
   ·simp[szF]
 have han:=zgS (qJ l) (zL d).1 hd1 (by omega)
 have ha:swapJ l ⟨d,false⟩=(⟨(thn (zL d) (kC (qJ l))).1,decide ((thn (zL d) (kC (qJ l))).2≠0)⟩,(thn (zL d) (kC (qJ l))).2):=by unfold swapJ;rw[if_neg (by simp)];unfold zf8 at hb;rw[if_neg hb]
 rw[if_neg hb,if_neg hb]at hfr
 have e1:=jX (zL d).1
 have e2:=jX (kC (qJ l) (zL d).1).1
 refine zow Tryz.func59 cf0 fun imm0 w0=>?_
 simp (disch:=omega) [zz,rjE]
 refine YE hfr rfl rfl (by simp) (by simp[q9,TV.er,AV.er,Tok.k,hse]) ?_
 simp (disch:=omega) [zz]
 refine YE hcl rfl rfl (by simp) (by simp[q9,TV.er,AV.er,e0]) ?_
 by_cases h1:(zL d).2=0
 rotate_left
 ·rw[VN _ h1]at ha
  simp (disch:=omega) [zz,Tryz.f59,ha,h1,e1,rjE]
 rw[dK _ h1]at ha
 simp (disch:=omega) [zz,h1]
 refine YE han rfl rfl (by simp) (by simp[q9,TV.er,AV.er,e1]) ?_
 simp (disch:=omega) [zz,Tryz.f59,ha,e2,rjE]
def rjO (x:DV × Int × List (List UInt8)):AV:=if x.2.1=0 then rjE ⟨x.1,false⟩ else .agg [rdE x.1,.s [],.b false,.b false]
theorem zrs (x:DV × Int × List (List UInt8)):(rjO x).er=rjO x:=by
 unfold rjO;split
 ·exact XY _
 ·simp[AV.er,AV.ers,jX]
theorem zh6 (d:DV) (hd:DOK d) (hm:szF d.m<=1000000000) (hn:szF d.n<=10000000000):PC Tryz.prog 30 [.av RdT (rdE d),.av .str (.s nmK)] (.tup [(RjT,rjO (openJ d)),(.slice 9,.sl .no (qG (openJ d).2.2)),(.int .i64,.i .i64 (openJ d).2.1)]):=by
 have hcl:=zcJ d hd
 have hd1:=GU hd
 have e0:=jX d
 have e1:=jX (zL d).1
 have ho:openJ d=if (zL d).2=0 then xM (zL d).1 else((zL d).1,(zL d).2,[]):=rfl
 have hse:∀l:List (List UInt8),AV.ers (qG l)=qG l:=fun l=>by simp[qG,AV.ers_eq,Function.comp_def,AV.er]
 have hne:¬([]:List UInt8)=nmK:=by decide
 have hnk:¬nmK=([]:List UInt8):=by decide
 refine zow Tryz.func30 cf0 fun imm0 w0=>?_
 simp (disch:=omega) [zz,hne,hnk]
 refine YE hcl rfl rfl (by simp) (by simp[q9,TV.er,AV.er,e0]) ?_
 by_cases h1:(zL d).2=0
 rotate_left
 ·rw[if_neg h1]at ho
  rw[ho]
  simp (disch:=omega) [zz,Tryz.f30,h1,e1,rjO,qG]
 rw[if_pos h1]at ho
 obtain⟨htn,htm⟩:=WW h1
 obtain⟨d1,hd1e⟩:∃d1,d1=(zL d).1:=⟨_,rfl⟩
 rw[<-hd1e]at htn htm hd1 e1 ho
 have hrd:=zid false d1
 have hgf:jO false d1=d1.m:=rfl
 rw[hgf]at hrd
 have hsz:(JW d1.m).length<=1000000000:=by rw[htm,zfG];exact hm
 obtain⟨bs,hbs⟩:∃bs,bs=JW d1.m:=⟨_,rfl⟩
 rw[<-hbs]at hrd hsz
 have hsc:=znm bs hsz
 obtain⟨hle,_,_⟩:=GR bs.length (b:=bs) (Nat.le_refl _)
 have ho2:xM d1=if (qJ (jW bs)).length<bs.length then((kC (bs.take (qJ (jW bs)).length) d1).1,(kC (bs.take (qJ (jW bs)).length) d1).2,if (kC (bs.take (qJ (jW bs)).length) d1).2=0 then jW bs else []) else(d1,0,jW bs):=by rw[hbs];rfl
 obtain⟨L,hL⟩:∃L,L=jW bs:=⟨_,rfl⟩
 rw[<-hL]at hsc hle ho2
 have hLe:=hse L
 rw[ho,ho2,h1,<-hd1e]
 simp (disch:=omega) [zz]
 refine YE hrd rfl rfl (by simp) (by simp[q9,TV.er,AV.er,e1,nmB]) ?_
 simp (disch:=omega) [zz]
 refine zcv hsc ?_
 by_cases h2:(qJ L).length<bs.length
 ·have h2':((qJ L).length:Int)<bs.length:=by omega
  have han:=zgS (bs.take (qJ L).length) d1 hd1 (by rw[htn,List.length_take];simp only[szF];omega)
  have e2:=jX (kC (bs.take (qJ L).length) d1).1
  obtain⟨X,hX⟩:∃X,X=kC (bs.take (qJ L).length) d1:=⟨_,rfl⟩
  rw[<-hX]at han e2 |-
  simp (disch:=omega) [zz,h2,h2']
  (repeat with_reducible refine om ?_)
  refine XF han rfl rfl (by simp) (by simp[q9,TV.er,AV.er,e1]) ?_
  by_cases h3:X.2=0
  ·simp (disch:=omega) [zz,h3,Tryz.f30,e2,rjO,rjE,hLe]
   show rdJ _ _ _ _ _=true
   kernel_rfl
  ·simp (disch:=omega) [zz,h3,Tryz.f30,e2,rjO,qG]
   show rdJ _ _ _ _ _=true
   kernel_rfl
 ·have h2':¬((qJ L).length:Int)<bs.length:=by omega
  simp (disch:=omega) [zz,h2,h2',Tryz.f30,e1,rjO,rjE,hLe]
def ZQ (o:Option FV) (l:List (List UInt8)):Prop:=(o=none/\l=[])\/∃f,o=some f/\f.data=qJ l/\f.sure=f.data.length
def zg2 (o:Option FV) (l:List (List UInt8)) (r:List UInt8):Prop:=ZQ o l\/∃f,o=some f/\f.data=qJ l++frame r/\f.sure=(qJ l).length
def zaw (l:List (List UInt8)):Prop:=∀r∈l,r.length<=1048576
theorem zhT (a b:List (List UInt8)):qJ (a++b)=qJ a++qJ b:=by simp[qJ]
theorem zik (r:List UInt8):qJ [r]=frame r:=by simp[qJ]
theorem ZQ.data {o:Option FV} {l:List (List UInt8)} (h:ZQ o l):JW o=qJ l:=by
 rcases h with⟨rfl,rfl⟩|⟨f,rfl,h,_⟩
 ·rfl
 ·exact h
theorem ZQ.crash {o:Option FV} {l:List (List UInt8)} (h:ZQ o l) (ps:List Int):ZQ (ZI ps o).1 l/\(ZI ps o).2=ps:=by
 rcases h with⟨rfl,rfl⟩|⟨f,rfl,h1,h2⟩
 ·exact⟨.inl ⟨rfl,rfl⟩,rfl⟩
 ·simp only[ZI]
  rw[if_pos (by omega)]
  exact⟨.inr ⟨_,rfl,h1,rfl⟩,rfl⟩
structure Op (d:DV) (l:List (List UInt8)) (x:DV × Int × List (List UInt8)):Prop where
 e:x.2=(0,l)
 m:ZQ x.1.m l
 n:x.1.n=none
 left:x.1.left=-1
theorem zhD {d:DV} (h:d.left=-1):(zL d).2=0/\(zL d).1.n=none/\(zL d).1.m=d.m/\(zL d).1.left=-1:=by
 unfold zL
 split
 ·grind [jN,w5]
 simp_all
theorem zkh {d:DV} (h:d.left=-1) {l:List (List UInt8)} (hl:zaw l) (hm:ZQ d.m l):Op d l (openJ d):=by
 obtain⟨t1,t2,t3,t4⟩:=zhD h
 have hd:JW (zL d).1.m=qJ l:=by rw[t3];exact hm.data
 unfold openJ
 rw[if_pos t1]
 unfold xM
 simp only[hd,zkL hl,Nat.lt_irrefl,if_false]
 exact⟨rfl,by simp_all,t2,t4⟩
theorem zom (ps:List Int) (d:DV):(kP ps d).m=(ZI ps d.m).1:=rfl
theorem DX {d:DV} {l:List (List UInt8)} (hl:zaw l) (h:ZQ d.m l) (ps:List Int):Op (kP ps d) l (openJ (kP ps d)) :=
 zkh rfl hl (by rw[zom];exact(h.crash ps).1)
theorem zgv {d:DV} {l:List (List UInt8)} {r:List UInt8} (h:ZQ d.m l) (hr:r.length<=1048576) :
  ((addJ r ⟨d,false⟩).2=0/\(addJ r ⟨d,false⟩).1.br=false/\ZQ (addJ r ⟨d,false⟩).1.d.m (l++[r])/\(addJ r ⟨d,false⟩).1.d.n=d.n/\(d.left=-1->(addJ r ⟨d,false⟩).1.d.left=-1))\/
  ((addJ r ⟨d,false⟩).2≠0/\(addJ r ⟨d,false⟩).1.br=true/\zg2 (addJ r ⟨d,false⟩).1.d.m l r/\d.left≠-1):=by
 have hdat:(XB (frame r) d.m).data=qJ l++frame r/\(XB (frame r) d.m).sure=(qJ l).length:=by
  rcases h with⟨h1,rfl⟩|⟨f,h1,h2,h3⟩
  ·simp_all[XB,qJ]
  simp_all[XB]
 unfold addJ
 rw[if_neg (by simp),if_neg (by omega)]
 simp only[thn,qW,jO,QF,Bool.false_eq_true,if_false]
 by_cases hl:d.left=0
 ·simp_all[zg2]
 by_cases hl1:(w5 d).left=0
 ·right
  simp only[hl,if_false,if_true,jE,jO,Bool.false_eq_true,hl1]
  refine⟨by simp,by simp,.inr ⟨_,rfl,hdat.1,hdat.2⟩,?_⟩
  grind [w5]
 ·left
  simp only[hl,if_false,if_true,jE,jO,QF,Bool.false_eq_true,hl1]
  refine⟨trivial,by simp,.inr ⟨_,rfl,?_,rfl⟩,rfl,?_⟩
  ·simp_all[zhT,zik]
  simp_all[w5]
structure MEq (x y:MV):Prop where
 g:∀q,getD x.L q=getD y.L q
 f:∀d,x.bl.find? (fun p=>decide (p.1=d))=y.bl.find? (fun p=>decide (p.1=d))
theorem MEq.refl (x:MV):MEq x x:=⟨fun _=>rfl,fun _=>rfl⟩
theorem MEq.symm {x y:MV} (h:MEq x y):MEq y x:=⟨fun q=>(h.g q).symm,fun d=>(h.f d).symm⟩
theorem MEq.trans {x y z:MV} (h:MEq x y) (h2:MEq y z):MEq x z:=⟨fun q=>(h.g q).trans (h2.g q),fun d=>(h.f d).trans (h2.f d)⟩
theorem zaP {L:DbL} (h:OKD L) (q:Dig):q∈L.map Prod.fst<->getD L q≠[]:=by
 constructor
 ·simp_all[YP]
 ·intro hq
  exact Classical.byContradiction fun hn=>hq (zdZ hn)
theorem zkU {L L':DbL} (h:OKD L) (h':OKD L') (hg:∀q,getD L q=getD L' q):yB (L.map Prod.fst)=yB (L'.map Prod.fst):=by
 refine zim (y9 _) (y9 _) ?_
 rw[List.perm_ext_iff_of_nodup h.1 h'.1]
 simp_all[zaP]
theorem MEq.recM {x y:MV} (h:MEq x y):Go.Proofs.YtognnffjdckalaaGreatDoor.recM x.bl=Go.Proofs.YtognnffjdckalaaGreatDoor.recM y.bl:=by
 funext m s
 unfold Go.Proofs.YtognnffjdckalaaGreatDoor.recM
 rw[h.f]
theorem MEq.recs {x y:MV} (h:MEq x y) (hx:OKD x.L) (hy:OKD y.L):kT x=kT y:=by
 have hM:=h.recM
 have hT:recT x.bl=recT y.bl:=by funext t s;simp_all[recT]
 have hK:recK x=recK y:=by funext k s;unfold recK;rw[hT,h.g]
 unfold kT
 rw[hK,zkU hx hy h.g]
theorem cQ {x y:MV} (h:MEq x y) (d:Dig):kE d x.bl=kE d y.bl:=by unfold kE;rw[h.f]
theorem MEq.put {x y:MV} (h:MEq x y) (d:Dig) (s:List UInt8):MEq ⟨x.L,kY d s x.bl⟩ ⟨y.L,kY d s y.bl⟩:=by
 refine⟨h.g,fun e=>?_⟩
 simp only[KR,cQ h,h.f]
theorem MEq.add {x y:MV} (h:MEq x y) (mo:Nat) (t:qD):MEq ⟨kU mo x.L t,x.bl⟩ ⟨kU mo y.L t,y.bl⟩:=by
 refine⟨fun q=>?_,h.f⟩
 simp only[xT,h.g]
theorem MEq.load {mo:Nat} {r:List UInt8} {x y x':MV} (h:MEq x y) (hl:zQ mo r x=(x',0)):∃y',zQ mo r y=(y',0)/\MEq x' y':=by
 unfold zQ at hl |-
 split at hl
 ·cases hl
 rename_i ht
 rw[if_neg ht]
 split at hl
 ·rename_i w s hs
  try (rw[hs];simp only)
  split at hl
  ·rename_i hw
   cases hl
   rw[if_pos hw]
   exact⟨_,rfl,h.put _ _⟩
  rename_i hw
  rw[if_neg hw]
  split at hl
  ·rename_i hw2
   rw[if_pos hw2]
   split at hl
   ·rename_i hr
    cases hl
    rw[if_pos hr]
    exact⟨_,rfl,h.add _ _⟩
   simp_all
  ·cases hl
 ·cases hl
theorem MEq.loads {mo:Nat}:∀ {l:List (List UInt8)} {x y x':MV},MEq x y->zH mo l x=(x',0)->∃y',zH mo l y=(y',0)/\MEq x' y'
 | [],x,y,x',h,e=>by cases e;exact⟨y,rfl,h⟩
 | r::l,x,y,x',h,e=>by
  rw[zH]at e
  split at e
  ·rename_i h1
   obtain⟨y1,g1,g2⟩:=h.load (x':=(zQ mo r x).1) (by rw[<-h1])
   obtain⟨y',g3,g4⟩:=g2.loads e
   simp_all[zH]
  simp_all
structure RL (mo:Nat) (x:MV) (ts:List qD) (s:wI) (y:MV):Prop where
 ld:zH mo s.2 ⟨[],[]⟩=(y,0)
 L:y.L=znN mo ts
 f:∀d,y.bl.find? (fun p=>decide (p.1=d))=if d∈s.1 then x.bl.find? (fun p=>decide (p.1=d)) else none
 is:∀d∈s.1,kE d x.bl=true
theorem pW {mo:Nat} {r:List UInt8} {x y:MV} (h:zQ mo r x=(y,0)):zH mo [r] x=(y,0):=by
 rw[zH,h,if_pos rfl];rfl
theorem zb5 {bl:BlL} {p:Dig × List UInt8} (h:p∈bl):wtB p.2<=uP bl:=by
 have:=ziU ((List.singleton_sublist.2 h).map fun p:Dig × List UInt8=>wtB p.2)
 assumption
theorem cM (s:List UInt8):s.length<=(wX s).length:=by
 grind [wX,ZR,List.length_cons]
theorem RL.recM {mo N:Nat} {x:MV} (hx:wW mo N x) (hN:N<1000000000) {ts:List qD} {s:wI} {y:MV} (h:RL mo x ts s y) (m:Made):∃y',RL mo x ts (Go.Proofs.YtognnffjdckalaaGreatDoor.recM x.bl m s) y':=by
 unfold Go.Proofs.YtognnffjdckalaaGreatDoor.recM
 cases hf:x.bl.find? (fun p=>decide (p.1=m.sum))with
 | none=>grind
 | some p =>
  simp only
  by_cases hm:m.sum∈s.1
  ·grind
  rw[if_neg hm]
  obtain⟨h1,h2⟩:=UQ hf
  have hsm:m.sum=sha p.2:=by rw[<-h2];exact hx.sh p h1
  have hlen:p.2.length<1000000000:=by
   have:=zb5 h1
   have:=cM p.2
   have:=hx.le
   grind [wtB]
  refine⟨⟨y.L,kY (sha p.2) p.2 y.bl⟩,?_,h.L,?_,?_⟩
  ·simp only
   rw[WN h.ld]
   grind [pW,zdb]
  ·intro d
   simp only[KR,kE,h.f,List.mem_append,List.mem_singleton]
   grind
  ·intro d hd
   rcases List.mem_append.1 hd with hd|hd
   ·exact h.is d hd
   simp_all[kE]
theorem RL.recMs {mo N:Nat} {x:MV} (hx:wW mo N x) (hN:N<1000000000) {ts:List qD}:∀(l:List Made) {s:wI} {y:MV},RL mo x ts s y->∃y',RL mo x ts (l.foldl (fun s m=>Go.Proofs.YtognnffjdckalaaGreatDoor.recM x.bl m s) s) y'
 | [],_,y,h=>⟨y,h⟩
 | m::l,_,y,h=>by
  obtain⟨y1,h1⟩:=h.recM hx hN m
  exact RL.recMs hx hN l h1
theorem RL.recT {mo N:Nat} {x:MV} (hx:wW mo N x) (hN:N<1000000000) {ts:List qD} {s:wI} {y:MV} (h:RL mo x ts s y) {t:qD} (ht:TrG t):∃y',RL mo x (ts++[t]) (Go.Proofs.YtognnffjdckalaaGreatDoor.recT x.bl t s) y':=by
 obtain⟨y1,h1⟩:=RL.recMs hx hN t.outs h
 unfold Go.Proofs.YtognnffjdckalaaGreatDoor.recT
 refine⟨⟨kU mo y1.L t,y1.bl⟩,?_,?_,h1.f,h1.is⟩
 ·simp only
  rw[WN h1.ld]
  exact pW (zbc ht.1 ht.2)
 ·simp only
  rw[zmT,h1.L]
theorem RL.recTs {mo N:Nat} {x:MV} (hx:wW mo N x) (hN:N<1000000000):∀(l:List qD) {ts:List qD} {s:wI} {y:MV},(∀t∈l,TrG t)->RL mo x ts s y->∃y',RL mo x (ts++l) (l.foldl (fun s t=>Go.Proofs.YtognnffjdckalaaGreatDoor.recT x.bl t s) s) y'
 | [],ts,_,y,_,h=>⟨y,by simpa using h⟩
 | t::l,ts,_,y,hl,h=>by
  obtain⟨y1,h1⟩:=h.recT hx hN (hl t (by simp))
  obtain⟨y2,h2⟩:=RL.recTs hx hN l (fun t ht=>hl t (List.mem_cons_of_mem _ ht)) h1
  grind
theorem C9 {mo N:Nat} {x:MV} (hx:wW mo N x) {k:Dig} {t:qD} (h:t∈getD x.L k):TrG t/\t.key=k:=by
 have hk:k∈x.L.map Prod.fst:=(zaP hx.ok k).2 (List.ne_nil_of_mem h)
 obtain⟨p,hp,hp2⟩:=zbs h
 exact⟨(hx.tr p hp).2 t hp2,(YP hx.ok hk).2 t h⟩
theorem RL.recKs {mo N:Nat} {x:MV} (hx:wW mo N x) (hN:N<1000000000):∀(l:List Dig) {ts:List qD} {s:wI} {y:MV},RL mo x ts s y->∃y',RL mo x (ts++l.flatMap fun k=>(getD x.L k).reverse) (l.foldl (fun s k=>recK x k s) s) y'
 | [],ts,_,y,h=>⟨y,by simpa using h⟩
 | k::l,ts,_,y,h=>by
  obtain⟨y1,h1⟩:=RL.recTs hx hN (getD x.L k).reverse (fun t ht=>(C9 hx (List.mem_reverse.1 ht)).1) h
  obtain⟨y2,h2⟩:=RL.recKs hx hN l h1
  exact⟨y2,by rw[List.flatMap_cons,<-List.append_assoc];exact h2⟩
def YZ (l:List zV) (bl:BlL):BlL:=l.foldl (fun b f=>kY (sha f.data) f.data b) bl
def nwB:List zV->BlL->List (List UInt8)
 | [],_=>[]
 | f::r,bl=>if kE (sha f.data) bl then nwB r bl else wX f.data::nwB r (kY (sha f.data) f.data bl)
theorem CO {d:Dig} {s:List UInt8} {bl:BlL} (h:kE d bl=true):kY d s bl=bl:=by
 grind [kE,kY]
theorem JV.eta {j:JV} (h:j.br=false):j=⟨j.d,false⟩:=by cases j;simp_all
theorem xR:∀ {l:List zV} {d:DV} {bl:BlL} {recs:List (List UInt8)},ZQ d.m recs->(∀f∈l,(wX f.data).length<=1048576)->
  ((qR l ⟨d,false⟩ bl).2.2=0/\(qR l ⟨d,false⟩ bl).2.1=YZ l bl/\(qR l ⟨d,false⟩ bl).1.br=false/\ZQ (qR l ⟨d,false⟩ bl).1.d.m (recs++nwB l bl)/\(d.left=-1->(qR l ⟨d,false⟩ bl).1.d.left=-1))\/
  ((qR l ⟨d,false⟩ bl).2.2≠0/\(qR l ⟨d,false⟩ bl).1.br=true/\d.left≠-1/\∃p r q,nwB l bl=p++r::q/\zg2 (qR l ⟨d,false⟩ bl).1.d.m (recs++p) r)
 | [],d,bl,recs,h,_=>.inl ⟨rfl,rfl,rfl,by simp_all[nwB,qR],fun e=>e⟩
 | f::l,d,bl,recs,h,hs=>by
  have hs2:∀f∈l,(wX f.data).length<=1048576:=fun f hf=>hs f (List.mem_cons_of_mem _ hf)
  by_cases hh:kE (sha f.data) bl=true
  ·have ih:=xR (l:=l) (bl:=bl) h hs2
   simp_all[qR,nwB,YZ,CO]
  have e2:nwB (f::l) bl=wX f.data::nwB l (kY (sha f.data) f.data bl):=by rw[nwB,if_neg hh]
  have e3:YZ (f::l) bl=YZ l (kY (sha f.data) f.data bl):=by rfl
  rcases zgv (r:=wX f.data) h (hs f (by simp))with⟨a1,a2,a3,a4,a5⟩|⟨a1,a2,a3,a4⟩
  ·have e1:qR (f::l) ⟨d,false⟩ bl=qR l ⟨(addJ (wX f.data) ⟨d,false⟩).1.d,false⟩ (kY (sha f.data) f.data bl):=by
    rw[qR,if_neg hh,if_pos a1,<-JV.eta a2]
   rw[e1,e2,e3]
   rcases xR (l:=l) (bl:=kY (sha f.data) f.data bl) a3 hs2 with⟨b1,b2,b3,b4,b5⟩|⟨b1,b2,b3,p,r,q,b4,b5⟩
   ·exact .inl ⟨b1,b2,b3,by simpa using b4,fun e=>b5 (a5 e)⟩
   ·exact .inr ⟨b1,b2,fun e=>b3 (a5 e),wX f.data::p,r,q,by rw[b4];rfl,by simpa using b5⟩
  ·have e1:qR (f::l) ⟨d,false⟩ bl=((addJ (wX f.data) ⟨d,false⟩).1,bl,(addJ (wX f.data) ⟨d,false⟩).2):=by
    simp_all[qR]
   rw[e1,e2]
   exact .inr ⟨a1,a2,a4,[],wX f.data,_,rfl,by simp_all⟩
noncomputable def zbt (t:qD) (outs:List zV) (bl:BlL):List (List UInt8):=nwB outs bl++[yS t]
structure zk4 (t:qD) (outs:List zV):Prop where
 g:TrG t
 o:t.outs=outs.map Q0
 b:∀f∈outs,(wX f.data).length<=1048576
 t:(yS t).length<=1048576
theorem zi7 {k:KV} {recs:List (List UInt8)} (hb:k.j.br=false) (h:ZQ k.j.d.m recs) {t:qD} {outs:List zV} (hf:zk4 t outs) :
  ((w6 t outs k).2=0/\(w6 t outs k).1.j.br=false/\ZQ (w6 t outs k).1.j.d.m (recs++zbt t outs k.M.bl)/\(w6 t outs k).1.M=⟨kU k.mo k.M.L t,YZ outs k.M.bl⟩/\(k.j.d.left=-1->(w6 t outs k).1.j.d.left=-1))\/
  ((w6 t outs k).2≠0/\(w6 t outs k).1.j.br=true/\k.j.d.left≠-1/\∃p r q,zbt t outs k.M.bl=p++r::q/\zg2 (w6 t outs k).1.j.d.m (recs++p) r):=by
 obtain⟨⟨d,br⟩,mo,M⟩:=k
 simp only at hb h
 subst hb
 unfold w6
 simp only
 rw[if_neg (by rw[hf.g.2];decide),if_neg (by rw[hf.o];simp)]
 unfold zbt
 rcases xR (l:=outs) (bl:=M.bl) h hf.b with⟨b1,b2,b3,b4,b5⟩|⟨b1,b2,b3,p,r,q,b4,b5⟩
 ·rw[if_neg (by omega)]
  obtain⟨j,hj⟩:∃j,j=(qR outs ⟨d,false⟩ M.bl).1:=⟨_,rfl⟩
  rw[<-hj]at b3 b4 b5 |-
  rw[b2,JV.eta b3]
  rcases zgv (r:=yS t) b4 hf.t with⟨a1,a2,a3,a4,a5⟩|⟨a1,a2,a3,a4⟩
  ·simp_all
  grind
 grind
theorem zdR:∀ {l:List zV} {bl:BlL} {r:List UInt8},r∈nwB l bl->∃f∈l,r=wX f.data
 | [],_,_,h=>by cases h
 | f::l,bl,r,h=>by
  rw[nwB]at h
  split at h
  ·obtain⟨g,h1,h2⟩:=zdR h
   exact⟨g,List.mem_cons_of_mem _ h1,h2⟩
  ·rcases List.mem_cons.1 h with rfl|h
   ·simp
   ·obtain⟨g,h1,h2⟩:=zdR h
    exact⟨g,List.mem_cons_of_mem _ h1,h2⟩
theorem zhr {s:List UInt8} (h:(wX s).length<=1048576):s.length<1000000000:=by grind [cM]
theorem P8 {mo:Nat}:∀ {l:List zV} {x:MV},(∀f∈l,(wX f.data).length<=1048576)->zH mo (nwB l x.bl) x=(⟨x.L,YZ l x.bl⟩,0)
 | [],x,_=>rfl
 | f::l,x,h=>by
  have h2:∀f∈l,(wX f.data).length<=1048576:=fun f hf=>h f (List.mem_cons_of_mem _ hf)
  rw[nwB]
  split
  ·simp_all[YZ,CO,P8]
  ·rw[zH,zdb (zhr (h f (by simp))),if_pos rfl]
   exact P8 (x:=⟨x.L,kY (sha f.data) f.data x.bl⟩) h2
theorem zh8 {mo:Nat} {t:qD} {outs:List zV} (hf:zk4 t outs) (x:MV):zH mo (zbt t outs x.bl) x=(⟨kU mo x.L t,YZ outs x.bl⟩,0):=by
 unfold zbt
 rw[WN (P8 hf.b)]
 exact pW (zbc hf.g.1 hf.g.2)
theorem MEq.nwB {x y:MV} (h:MEq x y):∀(l:List zV),Go.Proofs.YtognnffjdckalaaGreatDoor.nwB l x.bl=Go.Proofs.YtognnffjdckalaaGreatDoor.nwB l y.bl:=by
 intro l
 induction l generalizing x y with
 | nil=>rfl
 | cons f l ih =>
  simp only[Go.Proofs.YtognnffjdckalaaGreatDoor.nwB,cQ h]
  split
  ·exact ih h
  ·rw[ih (h.put (sha f.data) f.data)]
theorem zd5:∀ {l:List zV} {bl:BlL} {d:Dig},kE d bl=true->kE d (YZ l bl)=true
 | [],_,_,h=>h
 | f::l,bl,d,h=>by
  refine zd5 (l:=l) ?_
  simp_all[kE,KR]
theorem zox (s:List UInt8) (bl:BlL) (d:Dig):kE d (kY d s bl)=true:=by
 unfold kE
 rw[KR]
 split
 ·assumption
 ·simp
theorem zcr:∀ {l:List zV} {bl:BlL} {f:zV},f∈l->kE (sha f.data) (YZ l bl)=true
 | g::l,bl,f,h=>by
  rcases List.mem_cons.1 h with rfl|h
  ·exact zd5 (l:=l) (zox _ _ _)
  ·exact zcr (l:=l) h
theorem zib {t:qD} {outs:List zV} (hf:zk4 t outs) {bl:BlL}:zaw (zbt t outs bl):=by
 intro r hr
 rcases List.mem_append.1 hr with hr|hr
 ·obtain⟨f,h1,rfl⟩:=zdR hr
  exact hf.b f h1
 ·rw[List.mem_singleton.1 hr];exact hf.t
def KZ (bl:BlL) (d:Dig):List UInt8:=((bl.find? fun p=>decide (p.1=d)).map Prod.snd).getD []
def sB (bl:BlL) (hs:List Dig):BlL:=(yB hs).map fun d=>(d,KZ bl d)
theorem znQ {ks:List Dig} {k:Dig}:yB (ks++[k])=(yB ks).takeWhile (fun x=>!ltL k x)++k::(yB ks).dropWhile (fun x=>!ltL k x):=by
 refine(zd6 ⟨?_,?_⟩).symm
 ·refine List.perm_middle.trans ?_
  rw[List.takeWhile_append_dropWhile]
  exact((y9 ks).1.cons k).trans (List.perm_append_comm (l₁:=[k]))
 ·have hp:=(y9 ks).2
  rw[<-List.takeWhile_append_dropWhile (p:=fun x=>!ltL k x) (l:=yB ks)]at hp
  obtain⟨h1,h2,h3⟩:=List.pairwise_append.1 hp
  refine List.pairwise_append.2 ⟨h1,List.pairwise_cons.2 ⟨fun y hy=>?_,h2⟩,fun x hx y hy=>?_⟩
  ·cases hd:(yB ks).dropWhile (fun x=>!ltL k x)with
   | nil=>simp_all
   | cons b0 r =>
    have hb0:ltL k b0=true:=by
     have:=List.head_dropWhile_not (fun x=>!ltL k x) (l:=yB ks) (by rw[hd];simp)
     simp_all
    rw[hd]at hy h2
    cases hyk:ltL y k with
    | false=>rfl
    | true =>
     have h4:=xW hyk hb0
     rcases List.mem_cons.1 hy with rfl|hy
     ·simp_all[CF]
     simp_all
  ·rcases List.mem_cons.1 hy with rfl|hy
   ·grind [List.all_takeWhile]
   simp_all
theorem gD {bl:BlL} {hs:List Dig} {p:Bl}:p∈sB bl hs<->p.1∈hs/\p.2=KZ bl p.1:=by
 unfold sB
 rw[List.mem_map]
 constructor
 ·rintro⟨d,hd,rfl⟩
  simp_all[srtK_mem]
 grind [srtK_mem]
theorem GK {bl:BlL} {hs:List Dig} {d:Dig} (h:d∈hs):∃i:Nat,atB (sB bl hs) d=i/\(sB bl hs)[i]?=some (d,KZ bl d):=by
 have hm:(d,KZ bl d)∈sB bl hs:=gD.2 ⟨h,rfl⟩
 cases hf:(sB bl hs).findIdx? (fun p=>decide (p.1=d))with
 | none =>
  grind
 | some i =>
  grind [List.findIdx?_eq_some_iff_getElem,atB,gD,List.getElem_mem]
theorem ze7 {bl:BlL} {hs:List Dig} {d:Dig} (h:d∉hs):atB (sB bl hs) d=-1:=zgn fun p hp e=>h (e▸(gD.1 hp).1)
theorem zkc {bl:BlL} {hs:List Dig} {p:Bl} (h:p.1∈hs):VM (sB bl hs) p=sB bl hs:=by
 obtain⟨i,h1,_⟩:=GK (bl:=bl) h
 simp_all[VM]
theorem zcT {bl bl':BlL} {hs:List Dig} {d:Dig} {s:List UInt8} (h:d∉hs) (h1:∀x∈hs,KZ bl' x=KZ bl x) (h2:KZ bl' d=s):VM (sB bl hs) (d,s)=sB bl' (hs++[d]):=by
 unfold VM
 rw[ze7 h,if_neg (by decide)]
 have hm:sB bl hs=(yB hs).map fun x=>(x,KZ bl' x):=List.map_congr_left fun x hx=>by simp_all[srtK_mem]
 unfold zfi
 rw[hm,List.takeWhile_map,List.dropWhile_map]
 unfold sB
 rw[znQ,List.map_append,List.map_cons,h2]
 rfl
theorem zf6 {bl:BlL} {d x:Dig} {s:List UInt8} (hb:kE d bl=false):KZ (kY d s bl) x=if x=d then s else KZ bl x:=by
 unfold KZ
 rw[KR]
 unfold kE at hb |-
 grind
def kyB (bl:BlL):List Dig:=bl.map Prod.fst
theorem WC {bl:BlL} {d:Dig}:kE d bl=true<->d∈kyB bl:=by
 simp[kE,kyB]
theorem zod (d:Dig) (s:List UInt8) (bl:BlL):VM (sB bl (kyB bl)) (d,s)=sB (kY d s bl) (kyB (kY d s bl)):=by
 by_cases hb:kE d bl=true
 ·simp_all[zkc,WC,CO]
 ·have hb':kE d bl=false:=by simp_all
  have hn:d∉kyB bl:=fun h=>hb (WC.2 h)
  have hk:kyB (kY d s bl)=kyB bl++[d]:=by
   grind [kY,kyB]
  rw[hk]
  refine zcT hn (fun x hx=>?_) ?_
  ·rw[zf6 hb',if_neg (fun e:x=d=>hn (e▸hx))]
  ·rw[zf6 hb',if_pos rfl]
structure SmM (x:MV):Prop where
 t:∀q,∀t∈getD x.L q,(yS t).length<=1048576
 b:∀d p,x.bl.find? (fun p=>decide (p.1=d))=some p->(wX p.2).length<=1048576
theorem SmM.eq {x y:MV} (h:SmM x) (e:MEq x y):SmM y:=⟨fun q t ht=>h.t q t (by rw[e.g];exact ht),fun d p hp=>h.b d p (by rw[e.f];exact hp)⟩
theorem zlH {mo:Nat} {L:DbL} {t u:qD} {q:Dig} (h:u∈getD (kU mo L t) q):u=t\/u∈getD L q:=by
 rw[xT,zaN]at h
 split at h
 ·have:=List.mem_of_mem_take h
  rcases List.mem_cons.1 this with rfl|h
  ·exact .inl rfl
  ·exact .inr (List.mem_filter.1 h).1
 ·exact .inr h
theorem zjI {d e:Dig} {s:List UInt8} {l:BlL} {p:Dig × List UInt8} (h:(kY d s l).find? (fun p=>decide (p.1=e))=some p):l.find? (fun p=>decide (p.1=e))=some p\/p=(d,s):=by
 rw[KR]at h
 split at h
 ·exact .inl h
 ·split at h
  ·cases h;exact .inr rfl
  ·cases h
theorem SmM.load {mo:Nat} {r:List UInt8} {x y:MV} (h:SmM x) (hr:r.length<=1048576) (hl:zQ mo r x=(y,0)):SmM y:=by
 rcases zan hl with⟨s,rfl,rfl⟩|⟨t,ht,rfl,rfl⟩
 ·refine⟨h.t,fun d p hp=>?_⟩
  rcases zjI hp with h1|rfl
  ·exact h.b d p h1
  ·exact hr
 ·refine⟨fun q u hu=>?_,h.b⟩
  rcases zlH hu with rfl|h1
  ·exact hr
  ·exact h.t q u h1
theorem SmM.loads {mo:Nat}:∀ {l:List (List UInt8)} {x y:MV},SmM x->zaw l->zH mo l x=(y,0)->SmM y
 | [],x,y,h,_,e=>by cases e;exact h
 | r::l,x,y,h,hs,e=>by
  rw[zH]at e
  split at e
  ·rename_i h1
   exact SmM.loads (h.load (hs r (by simp)) (y:=(zQ mo r x).1) (by rw[<-h1])) (fun z hz=>hs z (List.mem_cons_of_mem _ hz)) e
  ·rename_i h1;rw[e]at h1;exact absurd rfl h1
theorem SmM.nil:SmM ⟨[],[]⟩:=⟨by simp[getD],by simp⟩
def zfV (x:MV):Prop:=∀q,∀t∈getD x.L q,∀m∈t.outs,kE m.sum x.bl=true
theorem zfV.eq {x y:MV} (h:zfV x) (e:MEq x y):zfV y:=fun q t ht m hm=>by rw[<-cQ e];exact h q t (by rw[e.g];exact ht) m hm
theorem zkj {bl:BlL} {m:Made} {s:wI} {d:Dig} (h:d∈s.1):d∈(recM bl m s).1:=by
 unfold recM
 split
 ·split
  ·exact h
  ·exact List.mem_append_left _ h
 ·exact h
theorem zoG {bl:BlL} {m:Made} {s:wI} (h:kE m.sum bl=true):m.sum∈(recM bl m s).1:=by
 unfold kE at h
 unfold recM
 cases hf:bl.find? (fun p=>decide (p.1=m.sum))with
 | none=>rw[hf]at h;cases h
 | some p =>
  simp only
  split
  ·assumption
  ·simp
theorem gJ {bl:BlL} {d:Dig}:∀(l:List Made) {s:wI},d∈s.1->d∈(l.foldl (fun s m=>recM bl m s) s).1
 | [],_,h=>h
 | m::l,_,h=>gJ l (zkj h)
theorem zf0 {bl:BlL} {m:Made} (hb:kE m.sum bl=true):∀(l:List Made) {s:wI},m∈l->m.sum∈(l.foldl (fun s m=>recM bl m s) s).1
 | y::l,_,h=>by
  rcases List.mem_cons.1 h with rfl|h
  ·exact gJ l (zoG hb)
  ·exact zf0 hb l h
theorem gM {bl:BlL} {d:Dig}:∀(l:List qD) {s:wI},d∈s.1->d∈(l.foldl (fun s t=>recT bl t s) s).1
 | [],_,h=>h
 | t::l,s,h=>gM l (s:=recT bl t s) (gJ t.outs h)
theorem zfz {bl:BlL} {m:Made} (hb:kE m.sum bl=true) {t:qD} (hm:m∈t.outs):∀(l:List qD) {s:wI},t∈l->m.sum∈(l.foldl (fun s t=>recT bl t s) s).1
 | u::l,s,h=>by
  rcases List.mem_cons.1 h with rfl|h
  ·exact gM l (s:=recT bl t s) (zf0 hb t.outs hm)
  ·exact zfz hb hm l h
theorem za3 {x:MV} {d:Dig}:∀(l:List Dig) {s:wI},d∈s.1->d∈(l.foldl (fun s k=>recK x k s) s).1
 | [],_,h=>h
 | k::l,s,h=>za3 l (s:=recK x k s) (gM _ h)
theorem zgz {x:MV} {m:Made} (hb:kE m.sum x.bl=true) {t:qD} (hm:m∈t.outs) {k:Dig} (ht:t∈getD x.L k):∀(l:List Dig) {s:wI},k∈l->m.sum∈(l.foldl (fun s k=>recK x k s) s).1
 | q::l,s,h=>by
  rcases List.mem_cons.1 h with rfl|h
  ·exact za3 l (s:=recK x k s) (zfz hb hm _ (List.mem_reverse.2 ht))
  ·exact zgz hb hm ht l h
theorem zoP {x:MV} (ho:OKD x.L) (h:zfV x) {k:Dig} {t:qD} (ht:t∈getD x.L k) {m:Made} (hm:m∈t.outs):m.sum∈(kT x).1 :=
 zgz (h k t ht m hm) hm ht _ (srtK_mem.2 ((zaP ho k).2 (List.ne_nil_of_mem ht)))
theorem zc9 {x:MV} {d:Dig} (h:d∈(kT x).1):(XE x).bl.find? (fun p=>decide (p.1=d))=x.bl.find? (fun p=>decide (p.1=d)):=by
 show (x.bl.filter fun p=>decide (p.1∈(kT x).1)).find? _=_
 rw[List.find?_filter]
 refine congrArg (fun f=>List.find? f x.bl) ?_
 funext p
 by_cases hp:p.1=d
 ·have:p.1∈(kT x).1:=by rw[hp];exact h
  simp[hp,this]
  exact hp▸this
 ·simp[hp]
theorem zfV.only {x:MV} (ho:OKD x.L) (h:zfV x):zfV (XE x):=fun q t ht m hm=>by
 have h1:=zoP ho h (k:=q) (t:=t) ht hm
 have h2:=h q t ht m hm
 unfold kE at h2 |-
 rw[zc9 h1];exact h2
structure Std (n N:Nat) (k:KV) (recs:List (List UInt8)):Prop where
 mo:k.mo=n
 inv:ZA N k
 br:k.j.br=false
 file:ZQ k.j.d.m recs
 small:zaw recs
 ld:∃M,zH n recs ⟨[],[]⟩=(M,0)/\MEq M k.M
 all:zfV k.M
theorem Std.sm {n N:Nat} {k:KV} {recs:List (List UInt8)} (h:Std n N k recs):SmM k.M:=by
 obtain⟨M,h1,h2⟩:=h.ld
 exact(SmM.nil.loads h.small h1).eq h2
end
end Go.Proofs.YtognnffjdckalaaGreatDoor
