/- A builder begins; one action's outcome is told. No condition. -/
import Derived.Test.YtdkieabmeiojjaaGreatDoorTK0ToSB3
import Derived.Test.YtdkieabmeiojjaaGreatDoorFX2ToSBC
set_option linter.unusedSimpArgs false
set_option linter.unusedVariables false
set_option linter.unusedSectionVars false
set_option maxHeartbeats 64000000
section
set_option maxRecDepth 100000
namespace Go.Proofs.YtdkieabmeiojjaaGreatDoor
open Go Go.Ab
open Classical
variable [Sel] [SelPow] [SelMax]
noncomputable abbrev CZ:TyD:=q9 Tryz.prog 37
theorem KN.none (S:wB) (n:Nat):KN S n [] ⟨[],[]⟩ where
 fin:=fun p h=>by simp at h
 nd:=by simp
 st:=fun p h=>by simp at h
 wnd:=by simp
 wn:=fun p h=>by simp at h
 wt:=fun p h=>by simp at h
 cl:=fun p h=>by simp at h
abbrev zpM:Cfg:=⟨fun n=>n==8,fun _=>false⟩
theorem zbT (w:zV):q7 Tryz.prog 23 [.av CZ (yV w)] [] fun r H'=>∃B O Y T,r=.av .ptr (.ptr B BdT [])/\H'=bdH B O Y T w [] ⟨[],[]⟩:=by
 have hea:=ZT w.acts
 have hef:=j6 w.files
 refine q7.sub (R:=fun r H'=>∃B O Y T,r=.av .ptr (.ptr B BdT [])/\H'=[(B,bdO w O Y T),(T,.map 3 9 []),(Y,.map 3 4 []),(O,.map 3 31 [])]) ?_ (fun r H' ⟨B,O,Y,T,h1,h2⟩ _=>⟨bdH B O Y T w [] ⟨[],[]⟩,HSub.of_perm (by rw[h2];exact List.Perm.cons _ (List.reverse_perm [_,_,_])),B,O,Y,T,h1,rfl⟩)
 refine zov Tryz.func23 zpM fun imm0 w0=>?_
 (simp (maxSteps:=2000000) (disch:=first|omega|assumption) [zz,-List.reduceReplicate,yV])
 intro O Y hY T hT1 hT2 B hB1 hB2 hB3
 (simp (maxSteps:=2000000) (disch:=first|omega|assumption) [zz,-List.reduceReplicate,Tryz.f23])
 exact⟨O,Y,T,rfl,rfl,rfl,rfl⟩
noncomputable def goC:Nat->List Txt->List QT->Int × Nat
 | _,_,[]=>(0,0)
 | k,L,a::r=>if pF a L=0 then goC (k+1) (L++a.outs) r else(pF a L,k)
noncomputable def gO (l:List QT):Int × Nat:=if 500<l.length then(6,0) else goC 0 [] l
theorem zoA (L:List Txt):(obO L).er=obO L:=by simp[obO,HObj.er_map,obE,AV.er,Function.comp_def]
theorem ziM (l:List QT) (hl:∀a∈l,zoy a) (hn:l.length<=1000000000) :
  PC Tryz.prog 47 [.av (.slice 49) (jP l)] (.tup [(.int .i64,.i .i64 (gO l).1),(.int .i64,.i .i64 ((gO l).2:Nat))]):=by
 refine q7.sub (R:=fun r H'=>r=.tup [(.int .i64,.i .i64 (gO l).1),(.int .i64,.i .i64 ((gO l).2:Nat))]) ?_ (fun r H' hr _=>⟨[],HSub.of_sub (List.nil_sublist _),hr,rfl⟩)
 obtain⟨V,hV⟩:∃V,V=gO l:=⟨_,rfl⟩
 rw[<-hV]
 unfold gO at hV
 refine zov Tryz.func47 cf0 fun imm0 w0=>?_
 by_cases h5:500<l.length
 ·have h5':(500:Int)<l.length:=by omega
  rw[if_pos h5]at hV
  subst hV
  simp (disch:=omega) [zz,jP,h5',Tryz.f47]
 have h5':¬(500:Int)<l.length:=by omega
 rw[if_neg h5]at hV
 simp (disch:=omega) [zz,jP,h5']
 intro M
 refine AT.loop' (α:=Nat) (fun k=>St.of [(4,.av (.map 9 4) (.map (some M))),(12,.av (.slice 49) (jP l)),(13,.av (.int .i64) (.i .i64 l.length)),(14,.av (.int .i64) (.i .i64 k))] [] (fun _=>0) [(M,obO ((l.take k).flatMap (·.outs)))])
  (fun k=>k<=l.length/\V=goC k ((l.take k).flatMap (·.outs)) (l.drop k)) (fun k=>l.length-k) 0 ?_ ?_ ?_
 ·apply Le.of<;>simp[zR,qI,z6,jP,obO,obE]<;>try omega
 ·exact⟨by omega,by simpa using hV⟩
 rintro k ⟨hk,hgo⟩ KL hN hE
 refine zrd cf0 ?_
 by_cases hlt:k<l.length
 ·have hlt':(k:Int)<l.length:=by omega
  have hg:=kG wW l k hlt
  have hac:=hl _ (List.getElem_mem hlt)
  have htk:l.take (k+1)=l.take k++[l[k]]:=List.take_succ_eq_append_getElem hlt
  rw[List.drop_eq_getElem_cons hlt]at hgo
  obtain⟨a,ha⟩:∃a,a=l[k]:=⟨_,rfl⟩
  rw[<-ha]at hg hac htk hgo
  obtain⟨L,hL⟩:∃L,L=(l.take k).flatMap (·.outs):=⟨_,rfl⟩
  have hL2:(l.take (k+1)).flatMap (·.outs)=L++a.outs:=by rw[htk,hL];simp
  rw[<-hL]at hgo |-
  have hae:=pC a
  have hlk:=zlM a hac M L
  have hoe:=zoA L
  simp (disch:=omega) [zz,hlt',hg,jP]
  (repeat with_reducible refine om ?_)
  refine qD (R:=fun r H'=>r=.av (.int .i64) (.i .i64 (pF a L))/\∃L2,H'=[(M,obO L2)]/\(pF a L=0->L2=L++a.outs)) [(M,obO L)] [] (by simp) rfl (by simp[qE]) (by simp) ?_ ?_
  ·simpa[TV.er,AV.er,hae,q8.er_cons,q8.er_nil,hoe]using hlk
  rintro r H' ⟨rfl,L2,rfl,h2⟩ _
  refine⟨[(M,obO L2)],by simpa using HSub.refl _,?_⟩
  unfold goC at hgo
  by_cases h0:pF a L=0
  ·rw[if_pos h0]at hgo
   rw[h2 h0]
   simp (disch:=omega) [zz,h0]
   (repeat with_reducible refine om ?_)
   refine hN _ (k+1) ?_ ⟨by omega,by rw[hL2];exact hgo⟩ (by omega)
   apply Le.of<;>simp[zR,qI,z6,hL2,jP]<;>try omega
  ·rw[if_neg h0]at hgo
   simp (disch:=omega) [zz,h0]
   (repeat with_reducible refine om ?_)
   refine hE _ _ (by simp) ?_
   simp (disch:=omega) [zz,Tryz.f47,hgo]
 ·have hlt':¬(k:Int)<l.length:=by omega
  rw[List.drop_of_length_le (by omega)]at hgo
  simp (disch:=omega) [zz,hlt',jP]
  refine hE _ _ (by simp) ?_
  simp (disch:=omega) [zz,Tryz.f47,hgo,goC]
noncomputable def X0 (w:zV):Int :=
 if XW w.files≠0 then XW w.files else if (gO w.acts).1≠0 then(gO w.acts).1 else
 if 1000<w.wants.length then 6 else if w.wants.all w5=true then 0 else 1
structure WkC (w:zV):Prop where
 f:∀f∈w.files,f.path.length<=2000000
 fn:w.files.length<=1000000000
 a:∀a∈w.acts,zoy a
 an:w.acts.length<=1000000000
 p:∀p∈w.wants,p.length<=2000000
 wn:w.wants.length<=1000000000
theorem zbJ (w:zV) (hw:WkC w):PC Tryz.prog 22 [.av CZ (yV w)] (.av (.int .i64) (.i .i64 (X0 w))):=by
 have hf:=ziQ w.files hw.fn (fun f hf=>by have:=hw.f f hf;omega)
 have ha:=ziM w.acts hw.a hw.an
 have hea:=ZT w.acts
 have hef:=j6 w.files
 have hwn:=hw.wn
 obtain⟨V,hV⟩:∃V,V=X0 w:=⟨_,rfl⟩
 rw[<-hV]
 unfold X0 at hV
 refine zow Tryz.func22 cf0 fun imm0 w0=>?_
 simp (disch:=omega) [zz,yV]
 refine qO hf rfl rfl (by simp) (by simp[qR,TV.er,AV.er,hef]) ?_
 by_cases h1:XW w.files=0
 rotate_left
 ·rw[if_pos h1]at hV
  simp (disch:=omega) [zz,h1,Tryz.f22,hV]
 rw[if_neg (by simp[h1])]at hV
 simp (disch:=omega) [zz,h1]
 refine qO ha rfl rfl (by simp) (by simp[qR,TV.er,AV.er,hea]) ?_
 by_cases h2:(gO w.acts).1=0
 rotate_left
 ·rw[if_pos h2]at hV
  simp (disch:=omega) [zz,h2,Tryz.f22,hV]
 rw[if_neg (by simp[h2])]at hV
 by_cases h3:1000<w.wants.length
 ·have h3':(1000:Int)<w.wants.length:=by omega
  rw[if_pos h3]at hV
  simp (disch:=omega) [zz,h2,h3',Tryz.f22,hV]
 have h3':¬(1000:Int)<w.wants.length:=by omega
 rw[if_neg h3]at hV
 simp (disch:=omega) [zz,h2,h3']
 refine AT.loop' (α:=Nat) (fun k=>St.of [(28,.av (.slice 9) (.sl .no (strs w.wants))),(29,.av (.int .i64) (.i .i64 w.wants.length)),(30,.av (.int .i64) (.i .i64 k))] [] (fun _=>0) [])
  (fun k=>k<=w.wants.length/\∀j (hj:j<w.wants.length),j<k->w5 w.wants[j]=true) (fun k=>w.wants.length-k) 0 ?_ ?_ ?_
 ·apply Le.of<;>simp[zR,qI,z6]<;>try omega
 ·exact⟨by omega,fun j hj h=>by omega⟩
 rintro k ⟨hk,hall⟩ KL hN hE
 refine zrd cf0 ?_
 by_cases hlt:k<w.wants.length
 ·have hlt':(k:Int)<w.wants.length:=by omega
  have hg:=kG AV.s w.wants k hlt
  have hm:=YW w.wants[k] (by have:=hw.p _ (List.getElem_mem hlt);omega)
  obtain⟨p,hp⟩:∃p,p=w.wants[k]:=⟨_,rfl⟩
  rw[<-hp]at hg hm
  simp (disch:=omega) [zz,hlt',hg,strs]
  (repeat with_reducible refine om ?_)
  refine zcv hm ?_
  cases hmv:w5 p with
  | true =>
   simp (disch:=omega) [zz]
   (repeat with_reducible refine om ?_)
   refine hN _ (k+1) ?_ ⟨by omega,fun j hj h=>?_⟩ (by omega)
   ·apply Le.of<;>simp[zR,qI,z6,strs]<;>try omega
   ·rcases Nat.lt_or_ge j k with h1|h1
    ·exact hall j hj h1
    ·have:j=k:=by omega
     subst this;rw[<-hp];exact hmv
  | false =>
   have hno:¬w.wants.all w5=true:=fun h=>by
    have:=List.all_eq_true.1 h p (by rw[hp];exact List.getElem_mem hlt)
    rw[hmv]at this;cases this
   rw[if_neg hno]at hV
   simp (disch:=omega) [zz]
   (repeat with_reducible refine om ?_)
   refine hE _ _ (by simp) ?_
   simp (disch:=omega) [zz,Tryz.f22,hV]
 ·have hlt':¬(k:Int)<w.wants.length:=by omega
  have hyes:w.wants.all w5=true:=List.all_eq_true.2 fun p hp=>by
   obtain⟨j,hj,rfl⟩:=List.getElem_of_mem hp
   exact hall j hj (by omega)
  rw[if_pos hyes]at hV
  simp (disch:=omega) [zz,hlt']
  refine hE _ _ (by simp) ?_
  simp (disch:=omega) [zz,Tryz.f22,hV]
noncomputable def ofV (w:zV) (i:Int):wZ × Int :=
 if X0 w≠0 then(⟨0,0,[],[]⟩,X0 w) else
 if i<0\/(w.acts.length:Int)<=i then(⟨0,0,[],[]⟩,2) else(kS (qW w) i.toNat,0)
theorem ztp (w:zV) (hc:WkC w) (hk:X0 w=0->zd8 w) (i:Int):PC Tryz.prog 10 [.av CZ (yV w),.av (.int .i64) (.i .i64 i)] (.tup [(q9 Tryz.prog 31,z7 (ofV w i).1),(.int .i64,.i .i64 (ofV w i).2)]):=by
 refine q7.sub (R:=fun r H'=>r=.tup [(q9 Tryz.prog 31,z7 (ofV w i).1),(.int .i64,.i .i64 (ofV w i).2)]) ?_ (fun r H' hr _=>⟨[],HSub.of_sub (List.nil_sublist _),hr,rfl⟩)
 obtain⟨V,hV⟩:∃V,V=ofV w i:=⟨_,rfl⟩
 rw[<-hV]
 unfold ofV at hV
 have hch:=zbJ w hc
 have hew:=cS w
 have hbg:=zbT w
 obtain⟨W,hW⟩:∃W,W=yV w:=⟨_,rfl⟩
 have hW2:W=.agg [qL w.files,jP w.acts,.sl .no (strs w.wants),.b w.keep]:=hW
 rw[<-hW]at hch hew hbg
 rw[<-hW]
 refine zov Tryz.func10 cf0 fun imm0 w0=>?_
 simp (disch:=omega) [zz]
 refine qO hch rfl rfl (by simp) (by simp[qR,TV.er,hew]) ?_
 by_cases h1:X0 w=0
 rotate_left
 ·rw[if_pos h1]at hV
  subst hV
  simp (disch:=omega) [zz,h1,Tryz.f10,z7,qL,zC]
 rw[if_neg (by simp[h1])]at hV
 by_cases h2:i<0
 ·rw[if_pos (.inl h2)]at hV
  subst hV
  simp (disch:=omega) [zz,h1,h2,Tryz.f10,z7,qL,zC]
 by_cases h3:(w.acts.length:Int)<=i
 ·rw[if_pos (.inr h3)]at hV
  subst hV
  simp (disch:=omega) [zz,h1,h2,hW2,jP,h3,Tryz.f10,z7,qL,zC]
 rw[if_neg (by omega)]at hV
 obtain⟨n,rfl⟩:∃n:Nat,i=n:=⟨i.toNat,by omega⟩
 have hn:n<w.acts.length:=by omega
 have hWE:W=.agg [qL w.files,.sl .no (w.acts.map wW),.sl .no (strs w.wants),.b w.keep]:=hW
 rw[Int.toNat_natCast]at hV
 simp (disch:=omega) [zz,h1,h2,hWE,h3]
 refine qD (R:=fun r H'=>∃B O Y T,r=.av .ptr (.ptr B BdT [])/\H'=bdH B O Y T w [] ⟨[],[]⟩) [] [] (by simp) rfl (by simp[qE]) (by simp) ?_ ?_
 ·rw[<-hWE]
  simpa[TV.er,hew,q8.er_nil]using hbg
 rintro r H ⟨B,O,Y,T,rfl,rfl⟩ _
 refine⟨bdH B O Y T w [] ⟨[],[]⟩,by simpa using HSub.refl _,?_⟩
 have hHe:=YD B O Y T w [] ⟨[],[]⟩
 have hbr:=zeD B O Y T w (hk h1) n ⟨[],[]⟩ (KN.none _ _) hn
 unfold BrC at hbr
 have heo:=Q5 (kS (qW w) n)
 simp (disch:=omega) [zz]
 refine qD (R:=fun r H'=>r=.av (q9 Tryz.prog 31) (z7 (kS (qW w) n))) (bdH B O Y T w [] ⟨[],[]⟩) [] (by simp) rfl (by simp[qE]) (by simp) ?_ ?_
 ·rw[hHe]
  have hb2:=hbr.mono fun r H' h=>(by obtain⟨_,h,_⟩:=h;exact h:r=.av (q9 Tryz.prog 31) (z7 (kS (qW w) n)))
  simpa[TV.er,AV.er]using hb2
 rintro r H rfl _
 refine⟨[],HSub.of_sub (List.nil_sublist _),?_⟩
 subst hV
 simp (disch:=omega) [zz,Tryz.f10,heo]
theorem zaP {fs:List jK} (h:XW fs=0):fs.length<=1024/\∀j (hj:j<fs.length),JC fs j hj=0:=by
 have h0:¬1024<fs.length:=fun h0=>by simp_all[XW]
 refine⟨by omega,fun j=>?_⟩
 induction j using Nat.strongRecOn with
 | ind j ih =>
  grind [zgN]
theorem zfp {fs:List jK} {j:Nat} {hj:j<fs.length} (h:JC fs j hj=0):fs[j].data.length<=65536:=by
 grind [JC]
theorem zi4 {fs:List jK} (h:XW fs=0):pS fs=false:=by
 obtain⟨_,h2⟩:=zaP h
 unfold pS
 rw[List.any_eq_false]
 intro f hf
 obtain⟨j,hj,rfl⟩:=List.getElem_of_mem hf
 simp_all[zfp]
theorem zds:∀ {l:List QT} {k:Nat} {L:List Txt},(goC k L l).1=0->∀a∈l,(Y3 a.tool).1=0
 | [],_,_,_,a,ha=>by simp at ha
 | b::l,k,L,h,a,ha=>by
  unfold goC at h
  by_cases h0:pF b L=0
  ·rw[if_pos h0]at h
   rcases List.mem_cons.1 ha with rfl|ha
   ·unfold pF at h0
    omega
   ·exact zds h a ha
  simp_all
theorem zfQ {t:Txt} (h:(Y3 t).1=0):∃cs,zL t=.ok cs:=by
 unfold Y3 at h
 cases hc:zL t with
 | ok cs=>simp
 | error e =>
  grind [YO]
theorem WkC.ok {w:zV} (hc:WkC w) (h:X0 w=0):zd8 w:=by
 unfold X0 at h
 by_cases h1:XW w.files=0
 rotate_left
 ·omega
 rw[if_neg (by simp[h1])]at h
 by_cases h2:(gO w.acts).1=0
 rotate_left
 ·omega
 have hn:¬500<w.acts.length:=fun hn=>by simp_all[gO]
 unfold gO at h2
 rw[if_neg hn]at h2
 obtain⟨hl,_⟩:=zaP h1
 exact⟨by omega,fun a ha=>⟨(hc.a a ha).b,zfQ (zds h2 a ha),(hc.a a ha).o⟩,by omega,zi4 h1⟩
theorem ztz (w:zV) (hc:WkC w) (i:Int):PC Tryz.prog 10 [.av CZ (yV w),.av (.int .i64) (.i .i64 i)] (.tup [(q9 Tryz.prog 31,z7 (ofV w i).1),(.int .i64,.i .i64 (ofV w i).2)]) :=
 ztp w hc hc.ok i
end Go.Proofs.YtdkieabmeiojjaaGreatDoor
end
section
set_option maxRecDepth 100000
namespace Go.Proofs.YtdkieabmeiojjaaGreatDoor
open Go Go.Ab
open Classical
variable [Sel] [SelPow] [SelMax]
theorem zrE:∀ {L l:List Txt},dN L l=false->(∀p∈l,p∉L)/\l.Nodup
 | _,[],_=>⟨by simp,by simp⟩
 | L,p::r,h=>by
  unfold dN at h
  split at h
  ·cases h
  ·rename_i hp
   obtain⟨h1,h2⟩:=zrE h
   grind
theorem zrJ {a:QT} {L:List Txt} (h:pF a L=0):(Y3 a.tool).1=0/\a.outs≠[]/\(∀p∈a.outs,Z8 p YR=true)/\(∀p∈a.ins,w5 p=true)/\(∀p∈a.asks,CK p=true)/\dN L a.outs=false:=by
 unfold pF at h
 grind
theorem zt1:∀ {l:List QT} {k:Nat} {L:List Txt},(goC k L l).1=0->∀j (h:j<l.length),pF l[j] (L++(l.take j).flatMap (·.outs))=0
 | [],_,_,_,j,h=>by simp at h
 | a::l,k,L,h0,j,h=>by
  unfold goC at h0
  split at h0
  ·rename_i h1
   cases j with
   | zero=>simpa using h1
   | succ j =>
    have:=zt1 h0 j (by simpa using h)
    simpa[List.append_assoc]using this
  ·rename_i h1
   exact absurd h0 h1
structure WkL (w:zV):Prop where
 c0:XW w.files=0
 n:w.acts.length<=500
 one:∀j (h:j<w.acts.length),pF w.acts[j] ((w.acts.take j).flatMap (·.outs))=0
 wl:w.wants.length<=1000
 wm:∀p∈w.wants,w5 p=true
theorem zst {w:zV} (h:X0 w=0):WkL w:=by
 unfold X0 at h
 by_cases h1:XW w.files=0
 rotate_left
 ·omega
 rw[if_neg (by simp[h1])]at h
 by_cases h2:(gO w.acts).1=0
 rotate_left
 ·omega
 rw[if_neg (by simp[h2])]at h
 unfold gO at h2
 by_cases h3:500<w.acts.length
 ·simp_all
 rw[if_neg h3]at h2
 split at h
 ·cases h
 rename_i h4
 split at h
 ·rename_i h5
  exact⟨h1,by omega,fun j hj=>by simpa using zt1 h2 j hj,by omega,by simp_all⟩
 ·cases h
section
variable {w:zV} (h:WkL w)
include h
theorem WkL.lt {i j:Nat} (hj:j<w.acts.length) (hij:i<j) {p:Txt} (h1:p∈(w.acts[i]'(by omega)).outs):p∉w.acts[j].outs:=fun h2=>by
 have h3:=(zrE (zrJ (h.one j hj)).2.2.2.2.2).1 p h2
 exact h3 (List.mem_flatMap.2 ⟨_,List.mem_take_iff_getElem.2 ⟨i,by omega,rfl⟩,h1⟩)
theorem WkL.uniq {i j:Nat} (hi:i<w.acts.length) (hj:j<w.acts.length) {p:Txt} (h1:p∈w.acts[i].outs) (h2:p∈w.acts[j].outs):i=j:=by
 rcases Nat.lt_trichotomy i j with hij|hij|hij
 ·exact absurd h2 (h.lt hj hij h1)
 ·exact hij
 ·exact absurd h1 (h.lt hi hij h2)
theorem WkL.maker {i:Nat} (hi:i<w.acts.length) {p:Txt} (hp:p∈w.acts[i].outs):wJ w.acts p=some i:=by
 cases hm:wJ w.acts p with
 | none =>
  simp_all[wJ]
 | some j =>
  obtain⟨hj,h2⟩:=zaj hm
  rw[h.uniq hj hi h2 hp]
theorem WkL.none {p:Txt} (hm:wJ w.acts p=none):∀a∈w.acts,p∉a.outs:=fun a ha hp=>by
 obtain⟨i,hi,rfl⟩:=List.getElem_of_mem ha
 rw[h.maker hi hp]at hm
 cases hm
theorem WkL.apart {i:Nat} (hi:i<w.acts.length) {p:Txt} (hp:p∈w.acts[i].outs):∀f∈w.files,f.path≠p:=fun f hf e=>by
 obtain⟨j,hj,rfl⟩:=List.getElem_of_mem hf
 have h1:=(zaP h.c0).2 j hj
 have h2:=(zrJ (h.one i hi)).2.2.1 p hp
 simp_all[JC]
end
end Go.Proofs.YtdkieabmeiojjaaGreatDoor
end
section
set_option maxRecDepth 100000
namespace Go.Proofs.YtdkieabmeiojjaaGreatDoor
open Go Go.Ab
open Classical
variable [Sel] [SelPow] [SelMax]
theorem zrD {a b:List jK} {p:Txt} (h:∀f∈b,f.path≠p):JI (a++b) p=JI a p:=by
 grind [JI]
theorem zrq {a b:List jK} {p:Txt} (h:∀f∈a,f.path≠p):JI (a++b) p=JI b p:=by
 grind [JI]
theorem zrF {g:Nat->List jK} {p:Txt} {j:Nat}:∀ {l:List Nat},l.Nodup->j∈l->(∀i∈l,i≠j->∀f∈g i,f.path≠p)->JI (l.flatMap g) p=JI (g j) p
 | [],_,h,_=>by simp at h
 | i::l,hd,hj,hall=>by
  rw[List.nodup_cons]at hd
  rw[List.flatMap_cons]
  by_cases hij:i=j
  ·subst hij
   refine zrD fun f hf=>?_
   obtain⟨k,hk,hf⟩:=List.mem_flatMap.1 hf
   exact hall k (by simp[hk]) (fun e=>hd.1 (e▸hk)) f hf
  ·rw[zrq (hall i (by simp) hij)]
   exact zrF hd.2 ((List.mem_cons.1 hj).resolve_left fun e=>hij e.symm) fun k hk=>hall k (by simp[hk])
theorem zt6 {a:QT} (ha:zm2 a) {cs:List CmdV} (hcs:zL a.tool=.ok cs) {f:Txt->Option KnV} (hf:Ans f) {b:zJ} (h:goF f 600 (X3 a.env a.outs (QS a) cs)=some b):∀y∈(ZH b).1.outs,y.path∈a.outs:=by
 intro y hy
 have g3:=dV hcs (env:=a.env) (by have:=ha.be;omega) ha.bev a.outs (QS a)
 obtain⟨kn',hk⟩:=znp hf 600 g3 h
 obtain⟨wr,hs⟩:=hk.s
 unfold ZH at hy
 split at hy
 ·cases hy
 split at hy
 ·obtain⟨p,hp,rfl⟩:=List.mem_map.1 hy
  have hp:=(ZO _).mem_iff.1 hp
  rw[hs.wrote]at hp
  simp only[List.map_map,List.mem_map]at hp
  obtain⟨w,h1,rfl⟩:=hp
  exact hs.own w h1
 ·cases hy
section
variable {w:zV} (hw:zd8 w)
include hw
theorem zsq {i:Nat} (hi:i<w.acts.length):∀y∈(kS (qW w) i).outs,y.path∈w.acts[i].outs:=by
 intro y hy
 have ha:=hw.a _ (List.getElem_mem hi)
 unfold kS at hy
 cases hl:jL (qW w) i with
 | none=>simp_all
 | some o =>
  rw[hl]at hy
  rw[za0]at hl
  unfold uK at hl
  cases hg:goF (kJ (qW w) (jL (qW w))) 600 ((qW w).b0 i)with
  | none=>simp_all
  | some b =>
   rw[hg]at hl
   simp only at hl
   by_cases ho:b.over=true
   ·rw[if_pos ho]at hl
    cases hl
    rw[CP hi]at hg
    exact zt6 ha.b ha.cs (zgE hw) hg y hy
   grind
noncomputable def zrz (w:zV):List jK:=w.files++(List.range w.acts.length).flatMap fun i=>(kS (qW w) i).outs
theorem zsS (hz:WkL w):LeK (kJ (qW w) (jL (qW w))) (zpp (zrz w)):=by
 intro p k hk
 unfold kJ at hk
 unfold zpp zrz
 cases hm:(qW w).who p with
 | none =>
  rw[hm]at hk
  rw[zrD]
  ·exact hk
  ·intro f hf e
   obtain⟨i,hi,hf⟩:=List.mem_flatMap.1 hf
   have hi:=List.mem_range.1 hi
   have:=zsq hw hi f hf
   rw[e]at this
   exact hz.none hm _ (List.getElem_mem hi) this
 | some j =>
  rw[hm]at hk
  simp only at hk
  obtain⟨hj,hp⟩:=zaj (hm:wJ w.acts p=some j)
  cases hd:jL (qW w) j with
  | none=>simp_all
  | some o =>
   rw[hd]at hk
   simp only at hk
   split at hk
   ·cases hk
    have hf:kS (qW w) j=o:=by simp_all[kS]
    rw[zrq (hz.apart hj hp),zrF List.nodup_range (List.mem_range.2 hj),hf]
    intro i hi hij f hf e
    have hi:=List.mem_range.1 hi
    have:=zsq hw hi f hf
    rw[e]at this
    exact hij (hz.uniq hi hj this hp)
   ·cases hk
theorem zsx:pS (zrz w)=false:=by
 have h1:=hw.l
 unfold pS at h1 |-
 rw[List.any_eq_false]at h1 |-
 intro f hf
 rcases List.mem_append.1 hf with hf|hf
 ·exact h1 f hf
 ·obtain⟨i,_,hf⟩:=List.mem_flatMap.1 hf
  have h2:=(zj4 hw i).1
  simp_all[pS]
theorem zsC (hz:WkL w) {i:Nat} (hi:i<w.acts.length) (hk:(kS (qW w) i).kind=1):zrB w.acts[i] (zrz w)=(kS (qW w) i,0):=by
 have ha:=hw.a _ (List.getElem_mem hi)
 rcases D1 (qW w) i with⟨h1,_⟩|⟨hl,_⟩
 ·omega
 have hf:∀o,jL (qW w) i=some o->kS (qW w) i=o:=fun o h=>by simp_all
 have hl2:=hl
 rw[za0]at hl2
 unfold uK at hl2
 cases hg:goF (kJ (qW w) (jL (qW w))) 600 ((qW w).b0 i)with
 | none=>simp_all
 | some b =>
  rw[hg]at hl2
  simp only at hl2
  by_cases ho:b.over=true
  ·rw[if_pos ho]at hl2
   have he:=XU (zsS hw hz) 600 hg (.inl ho)
   rw[CP hi]at he
   unfold zrB
   rw[ha.cs]
   simp only
   rw[if_neg (by grind [zsx])]
   have:zru (zpp (zrz w)) w.acts[i] (gG w.acts[i])=b:=by
    simp_all[zru,GO]
   simp_all
  grind
end
end Go.Proofs.YtdkieabmeiojjaaGreatDoor
end
section
set_option maxRecDepth 100000
namespace Go.Proofs.YtdkieabmeiojjaaGreatDoor
open Go Go.Ab
open Classical
variable [Sel] [SelPow] [SelMax]
abbrev zti:TyD:=.struct [3,9,3]
def zrC:AV:=.agg [.i .i64 0,.s [],.i .i64 0]
def ztg (p:Txt):AV:=.agg [.i .i64 1,.s p,.i .i64 0]
noncomputable def zsI (b:zJ):AV:=if b.over=true then zrC else ztg b.asks
noncomputable def zrv (b:zJ):TV:=.tup [(zti,zsI b),(q9 Tryz.prog 31,z7 (ZH b).1)]
def ztu (v:AV) (Hs:q8) (f:Txt->Option KnV):Prop:=Hs.er=Hs/\v.er=v/\∀p:Txt,p.length<=2000->VC1 v [.av .str (.s p)] Hs fun r H'=>r=.tup [(KnT,jD ((f p).getD ⟨[],false,[]⟩)),(.bool,.b (f p).isSome)]/\H'=Hs
theorem zsO (B:Nat) (v:AV) (Hs:q8) (f:Txt->Option KnV) (hf:Ans f) (hv:ztu v Hs f) {env:List (Txt × Txt)} {cs:List CmdV} {outs:List Txt} {may:Txt->Bool} {kn:List KnV} {b b':zJ} {H:q8} {n:Nat}
  (hH:ZY B b H) (hk:WN env cs outs may kn b) (ho:outs.length<=1000000) (hgo:goF f n b=some b') :
  q7 Tryz.prog 28 [.av .ptr (.ptr B UN []),.av .func v] (H++Hs) fun y H'=>y=zrv b'/\(∃H2,H'=H2++Hs/\ZY B b' H2)/\∃kn',WN env cs outs may kn' b':=by
 obtain⟨hHs,hve,hvf⟩:=hv
 refine zov Tryz.func28 cf0 fun imm0 w0=>?_
 simp (disch:=omega) [zz]
 refine AT.loop' (α:=Nat × zJ × List KnV × q8) (fun x=>St.of [(0,.av .ptr (.ptr B UN [])),(1,.av .func v),(4,.loc 4 []),(5,.loc 5 [])] [(4,(zti,zrC)),(5,(q9 Tryz.prog 31,.agg [.i .i64 0,.i .i64 0,.sl .full [],.sl .full []]))] (fun _=>0) (x.2.2.2++Hs))
  (fun x=>goF f x.1 x.2.1=some b'/\WN env cs outs may x.2.2.1 x.2.1/\ZY B x.2.1 x.2.2.2) (fun x=>x.1) (n,b,kn,H) ?_ ?_ ?_
 ·apply Le.of<;>simp[zR,qI,z6,zrC]<;>try omega
 ·exact⟨hgo,hk,hH⟩
 clear hgo hk hH kn b
 rintro⟨i,b,kn,H⟩ ⟨hgo,hk,hH⟩ KL hN hE
 simp only at hgo hk hH hN
 cases i with
 | zero=>cases hgo
 | succ i =>
 rw[goF]at hgo
 have hHe:=hH.er
 refine zrd cf0 ?_
 simp (disch:=omega) [zz,zrC]
 refine qD (R:=fun y H'=>y=.tup [(.str,.s (if b.over=true then [] else b.asks)),(.bool,.b (!b.over))]/\ZY B b H') H Hs (List.Perm.refl _) rfl (by simp[qE]) (by simp) ?_ ?_
 ·rw[hHe];simpa[TV.er,AV.er]using zn3 B hH
 rintro y H1 ⟨rfl,hH1⟩ _
 clear hH hHe
 have hHe1:=hH1.er
 refine⟨H1++Hs,HSub.refl _,?_⟩
 by_cases hov:b.over=true
 ·rw[if_pos hov]at hgo
  have hb:=Option.some.inj hgo
  subst hb
  have h2:=zsA hov
  have hers:(z7 (ZH b).1).er=z7 (ZH b).1:=Q5 _
  simp (disch:=omega) [zz,hov]
  refine qD (R:=fun y H'=>y=.tup [(q9 Tryz.prog 31,z7 (ZH b).1),(.bool,.b (ZH b).2)]/\ZY B b H') H1 Hs (List.Perm.refl _) rfl (by simp[qE]) (by simp) ?_ ?_
  ·rw[hHe1];simpa[TV.er,AV.er]using zfA B hH1 (by have:=hk.rl;omega) (hk.wl ho)
  rintro y H2 ⟨rfl,hH2⟩ _
  have hHe2:=hH2.er
  refine⟨H2++Hs,HSub.refl _,?_⟩
  simp (disch:=omega) [zz]
  (repeat with_reducible refine om ?_)
  refine hE _ _ (by simp) ?_
  simp (disch:=omega) [zz,q8.er_app,hHe2,hHs,zrv,zsI,zrC,hov,hers,Tryz.f28]
  exact⟨hH2,kn,hk⟩
 ·rw[if_neg hov]at hgo
  have hov':b.over=false:=by simpa using hov
  have hw:=zsy hov'
  have hal:=hk.askl hov'
  have hvc:=hvf b.asks (by omega)
  simp (disch:=omega) [zz,hov']
  refine Q6 (R:=fun r H'=>r=.tup [(KnT,jD ((f b.asks).getD ⟨[],false,[]⟩)),(.bool,.b (f b.asks).isSome)]/\H'=Hs) Hs H1 List.perm_append_comm hHs (by simp[qE]) hvc ?_
  rintro r' H' ⟨rfl,rfl⟩ _
  refine⟨H1++H',HSub.of_perm List.perm_append_comm,?_⟩
  cases hfk:f b.asks with
  | none =>
   rw[hfk]at hgo
   have hb:=Option.some.inj hgo
   subst hb
   simp (disch:=omega) [zz,jD]
   refine hE _ _ (by simp) ?_
   simp (disch:=omega) [zz,q8.er_app,hHe1,hHs,zrv,zsI,ztg,hov',hw,z7,qL,zC,Tryz.f28]
   exact⟨hH1,kn,hk⟩
  | some k =>
   rw[hfk]at hgo
   simp only at hgo
   obtain⟨hk1,hk2⟩:=hf _ _ hfk
   obtain⟨hgv,hk3⟩:=hk.give k hov' hk1 (fun _=>hk2)
   have hbg:=ziU B hH1 hk.g k (by omega) (by have:=hk.rl;omega) (fun h1 h2 h3=>hk.can k h1 h2 (fun _=>hk2))
   rw[hgv]at hbg
   have hke:(jD k).er=jD k:=(cP k).1
   simp (disch:=omega) [zz]
   refine qD (R:=fun y H'=>y=.av (.int .i64) (.i .i64 0)/\ZY B (y4 k b).2 H') H1 H' (List.Perm.refl _) rfl (by simp[qE]) (by simp) ?_ ?_
   ·rw[hHe1]
    simpa[TV.er,AV.er,hke]using hbg
   rintro y H4 ⟨rfl,hH4⟩ _
   refine⟨H4++H',HSub.refl _,?_⟩
   simp (disch:=omega) [zz]
   refine hN _ (i,(y4 k b).2,kn++[k],H4) ?_ ⟨hgo,hk3,hH4⟩ (by simp only;omega)
   apply Le.of<;>simp[zR,qI,z6,zrC]<;>try omega
theorem zsi (a:QT) (hab:zm2 a) (lg:Bool) {e:Int} {n:Nat} (hcv:zL a.tool=.error (e,n)):PC Tryz.prog 27 [.av zl3 (wW a),.av .bool (.b lg)] (.tup [(.ptr,.nilptr),(.int .i64,.i .i64 e)]):=by
 have hae:=pC a
 have hnew:=zod a hab
 unfold zo6 at hnew
 rw[hcv]at hnew
 have hne:¬e=0:=by rcases YO hcv with h|h<;>omega
 obtain⟨A,hA⟩:∃A,A=wW a:=⟨_,rfl⟩
 rw[<-hA]at hnew hae |-
 refine zow Tryz.func27 cf0 fun imm0 w0=>?_
 simp (disch:=omega) [zz]
 refine w8 (R:=fun r H'=>r=.tup [(.ptr,.nilptr),(.int .i64,.i .i64 e)]/\H'=[]) rfl (by simp[qE]) (by simp) ?_ ?_
 ·simpa[TV.er,hae,q8.er_nil]using hnew
 rintro r H' ⟨rfl,rfl⟩
 simp (disch:=omega) [zz,hne,Tryz.f27]
theorem zs7 (a:QT) (hab:zm2 a) {cs:List CmdV} (hcv:zL a.tool=.ok cs):PC Tryz.prog 27 [.av zl3 (wW a),.av .bool (.b true)] (.tup [(.ptr,.nilptr),(.int .i64,.i .i64 6)]):=by
 have hae:=pC a
 have hnew:=zod a hab
 unfold zo6 at hnew
 rw[hcv]at hnew
 obtain⟨A,hA⟩:∃A,A=wW a:=⟨_,rfl⟩
 rw[<-hA]at hnew hae |-
 refine zow Tryz.func27 cf0 fun imm0 w0=>?_
 simp (disch:=omega) [zz]
 refine w8 (R:=fun r H'=>∃B,r=.tup [(.ptr,.ptr B UN []),(.int .i64,.i .i64 0)]/\ZY B (X3 a.env a.outs (QS a) cs) H') rfl (by simp[qE]) (by simp) ?_ ?_
 ·simpa[TV.er,hae,q8.er_nil]using hnew
 rintro r H' ⟨B,rfl,hH⟩
 simp (disch:=omega) [zz,Tryz.f27]
theorem zsu (a:QT) (hab:zm2 a) {cs:List CmdV} (hcv:zL a.tool=.ok cs):q7 Tryz.prog 27 [.av zl3 (wW a),.av .bool (.b false)] [] fun r H'=>∃B,r=.tup [(.ptr,.ptr B UN []),(.int .i64,.i .i64 0)]/\ZY B (X3 a.env a.outs (QS a) cs) H':=by
 have hae:=pC a
 have hnew:=zod a hab
 unfold zo6 at hnew
 rw[hcv]at hnew
 obtain⟨A,hA⟩:∃A,A=wW a:=⟨_,rfl⟩
 rw[<-hA]at hnew hae |-
 refine zov Tryz.func27 cf0 fun imm0 w0=>?_
 simp (disch:=omega) [zz]
 refine w8 (R:=fun r H'=>∃B,r=.tup [(.ptr,.ptr B UN []),(.int .i64,.i .i64 0)]/\ZY B (X3 a.env a.outs (QS a) cs) H') rfl (by simp[qE]) (by simp) ?_ ?_
 ·simpa[TV.er,hae,q8.er_nil]using hnew
 rintro r H ⟨B,rfl,hH⟩
 have hHe:=hH.er
 simp (disch:=omega) [zz,hHe,Tryz.f27]
 exact hH
abbrev ztq:Cfg:=⟨fun n=>n==3,fun _=>false⟩
theorem zt4 (a:QT) (hab:zm2 a) (fs:List jK) (hn:fs.length<=1000000000) :
  PC Tryz.prog 11 [.av zl3 (wW a),.av (.slice 43) (qL fs)] (.tup [(q9 Tryz.prog 31,z7 (zrB a fs).1),(.int .i64,.i .i64 (zrB a fs).2)]):=by
 have hae:=pC a
 have hef:=j6 fs
 have hfb:=zs3 fs
 cases hcv:zL a.tool with
 | error en =>
  obtain⟨e,n⟩:=en
  have hv:zrB a fs=(zss,e):=by unfold zrB;rw[hcv]
  have hne:¬e=0:=by rcases YO hcv with h|h<;>omega
  have hbe:=zsi a hab (pS fs) hcv
  rw[hv]
  obtain⟨A,hA⟩:∃A,A=wW a:=⟨_,rfl⟩
  rw[<-hA]at hbe hae |-
  refine zow Tryz.func11 ztq fun imm0 w0=>?_
  simp (disch:=omega) [zz]
  intro bf
  refine qO (zrO fs hn) rfl rfl (by simp) (by simp[qR,TV.er,AV.er,hef]) ?_
  simp (disch:=omega) [zz]
  refine qO hbe rfl rfl (by simp) (by simp[qR,TV.er,AV.er,hae]) ?_
  simp (disch:=omega) [zz,hne,zss,z7,qL,zC,Tryz.f11]
 | ok cs =>
  cases hl:pS fs with
  | true =>
   have hv:zrB a fs=(zss,6):=by unfold zrB;rw[hcv];simp[hl]
   have hlo:=zrO fs hn
   have hbe:=zs7 a hab hcv
   rw[hl]at hlo
   rw[hv]
   obtain⟨A,hA⟩:∃A,A=wW a:=⟨_,rfl⟩
   rw[<-hA]at hbe hae |-
   refine zow Tryz.func11 ztq fun imm0 w0=>?_
   simp (disch:=omega) [zz]
   intro bf
   refine qO hlo rfl rfl (by simp) (by simp[qR,TV.er,AV.er,hef]) ?_
   simp (disch:=omega) [zz]
   refine qO hbe rfl rfl (by simp) (by simp[qR,TV.er,AV.er,hae]) ?_
   simp (disch:=omega) [zz,zss,z7,qL,zC,Tryz.f11]
  | false =>
   obtain⟨hgo,hov,hbk⟩:=zt8 hab hcv hl
   obtain⟨b',hb'⟩:∃b',b'=zru (zpp fs) a cs:=⟨_,rfl⟩
   rw[<-hb']at hgo hov
   have hv:zrB a fs=((ZH b').1,0):=by unfold zrB;rw[hcv];simp[hl,hb']
   have hlo:=zrO fs hn
   have hbe:=zsu a hab hcv
   rw[hl]at hlo
   rw[hv]
   obtain⟨A,hA⟩:∃A,A=wW a:=⟨_,rfl⟩
   rw[<-hA]at hbe hae |-
   refine zow Tryz.func11 ztq fun imm0 w0=>?_
   simp (disch:=omega) [zz]
   intro bf
   refine qO hlo rfl rfl (by simp) (by simp[qR,TV.er,AV.er,hef]) ?_
   simp (disch:=omega) [zz]
   refine qD (R:=fun r H'=>∃B,r=.tup [(.ptr,.ptr B UN []),(.int .i64,.i .i64 0)]/\ZY B (X3 a.env a.outs (QS a) cs) H') [] [(bf,zqR fs)] (by simp[zqR]) rfl (by simp[qE]) (by simp) ?_ ?_
   ·simpa[TV.er,AV.er,hae,q8.er_nil]using hbe
   rintro r H ⟨B,rfl,hH⟩ _
   have hHe:=hH.er
   refine⟨H++[(bf,zqR fs)],HSub.refl _,?_⟩
   simp (disch:=omega) [zz]
   have hans:ztu (.fn 29 [.ptr bf (.slice 43) []]) [(bf,zqR fs)] (zpp fs):=⟨by simp[q8.er_cons,hfb],rfl,fun p hp=>⟨_,rfl,by simp,by simpa[TV.er,AV.er,zpp]using ztf bf fs hn p⟩⟩
   refine qD (R:=fun y H'=>y=zrv b'/\(∃H2,H'=H2++[(bf,zqR fs)]/\ZY B b' H2)/\∃kn',WN a.env cs a.outs (QS a) kn' b') (H++[(bf,zqR fs)]) [] (by simp) rfl (by simp[qE]) (by simp) ?_ ?_
   ·rw[q8.er_app,hHe,q8.er_cons,hfb,q8.er_nil]
    have:=zsO B _ _ _ (zeF hl) hans hH hbk hab.bo hgo
    simpa[TV.er,AV.er]using this
   rintro y H1 ⟨rfl,_,_⟩ _
   refine⟨H1,by simpa using HSub.refl _,?_⟩
   simp (disch:=omega) [zz,zrv,Tryz.f11]
end Go.Proofs.YtdkieabmeiojjaaGreatDoor
end
section
set_option maxRecDepth 100000
namespace Go.Proofs.YtdkieabmeiojjaaGreatDoor
open Go Go.Ab
open Classical
variable [Sel] [SelPow] [SelMax]
end Go.Proofs.YtdkieabmeiojjaaGreatDoor
end
