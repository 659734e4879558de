/- How great a work is. No condition. -/
import Derived.Test.YtfkcpballfhddaaGreatDoorHM0ToSE0
set_option linter.unusedSimpArgs false
set_option linter.unusedVariables false
set_option linter.unusedSectionVars false
set_option maxHeartbeats 64000000
set_option maxRecDepth 100000
namespace Go.Proofs.YtfkcpballfhddaaGreatDoor
open Go Go.Ab
open Classical
section
variable [Sel] [SelPow] [SelMax]
def fsG:List jM->Nat
 | []=>0
 | x::l=>fsG l+(1+(x.path.length+x.data.length) / 64)
def acN (a:wD):Nat:=a.env.length+a.ins.length+a.asks.length+a.outs.length+a.tool.length / 64
def acG:List wD->Nat
 | []=>0
 | x::l=>acG l+acN x
theorem zdU:∀a b:List jM,fsG (a++b)=fsG a+fsG b
 | [],b=>by simp[fsG]
 | x::a,b=>by simp only[List.cons_append,fsG,zdU a b];omega
theorem zeF:∀a b:List wD,acG (a++b)=acG a+acG b
 | [],b=>by simp[acG]
 | x::a,b=>by simp only[List.cons_append,acG,zeF a b];omega
theorem zoL (l:List jM) (k:Nat) (h:k<l.length):fsG (l.take (k+1))=fsG (l.take k)+(1+(l[k].path.length+l[k].data.length) / 64):=by
 rw[List.take_succ_eq_append_getElem h,zdU];simp only[fsG];omega
theorem znE (l:List wD) (k:Nat) (h:k<l.length):acG (l.take (k+1))=acG (l.take k)+acN l[k]:=by
 rw[List.take_succ_eq_append_getElem h,zeF];simp only[acG];omega
theorem zmx (l:List jM) (k:Nat):fsG (l.take k)<=fsG l:=by
 conv=>rhs;rw[<-List.take_append_drop k l,zdU]
 omega
theorem zoA (l:List wD) (k:Nat):acG (l.take k)<=acG l:=by
 conv=>rhs;rw[<-List.take_append_drop k l,zeF]
 omega
def ZE (w:qQ):Bool:=decide (8<w.acts.length)||decide (120<fsG w.files+acG w.acts)||decide (20<w.wants.length)
structure WkB (w:qQ):Prop where
 f:∀f∈w.files,f.path.length+f.data.length<=4000000
 fn:w.files.length<=4000000
 an:w.acts.length<=4000000
 a:∀a∈w.acts,a.env.length+a.ins.length+a.asks.length+a.outs.length+a.tool.length<=4000000
 wn:w.wants.length<=4000000
theorem zmE:∀l:List jM,(∀f∈l,f.path.length+f.data.length<=4000000)->fsG l<=l.length*4000001
 | [],_=>by simp[fsG]
 | x::l,h=>by
  have h1:=zmE l fun f hf=>h f (by simp[hf])
  have h2:=h x (by simp)
  simp only[fsG,List.length_cons,Nat.add_mul];omega
theorem zna:∀l:List wD,(∀a∈l,a.env.length+a.ins.length+a.asks.length+a.outs.length+a.tool.length<=4000000)->acG l<=l.length*4000001
 | [],_=>by simp[acG]
 | x::l,h=>by
  have h1:=zna l fun f hf=>h f (by simp[hf])
  have h2:=h x (by simp)
  simp only[acG,acN,List.length_cons,Nat.add_mul];omega
theorem uR (w:qQ) (hw:WkB w):PC Tryz.prog 7 [.av Q7 (j7 w)] (.av .bool (.b (ZE w))):=by
 have hfn:=hw.fn
 have han:=hw.an
 have hwn:=hw.wn
 have hfm:fsG w.files<=4000000*4000001:=Nat.le_trans (zmE _ hw.f) (Nat.mul_le_mul_right _ hfn)
 have ham:acG w.acts<=4000000*4000001:=Nat.le_trans (zna _ hw.a) (Nat.mul_le_mul_right _ han)
 obtain⟨W,hW⟩:∃W,W=j7 w:=⟨_,rfl⟩
 have hWE:W=.agg [.sl .no (w.files.map qS),.sl .no (w.acts.map zI),.sl .no (strs w.wants),.b w.keep]:=hW
 have hsl:=zV w.wants
 rw[<-hW]
 refine zow Tryz.func7 cf0 fun imm0 w0=>?_
 simp (disch:=omega) [zz,hWE]
 refine AT.loop' (α:=Nat) (fun k=>St.of [(1,.loc 1 []),(3,.av (.int .i64) (.i .i64 (fsG (w.files.take k)))),(9,.av (.slice 57) (.sl .no (w.files.map qS))),(10,.av (.int .i64) (.i .i64 w.files.length)),(11,.av (.int .i64) (.i .i64 k))] [(1,(Q7,W))] (fun _=>0) [])
  (fun k=>k<=w.files.length) (fun k=>w.files.length-k) 0 ?_ ?_ ?_
 ·apply Le.of<;>simp[zA,qF,qJ,fsG,hWE]<;>try omega
 ·omega
 rintro k hk KL hN hE
 refine zrd cf0 ?_
 by_cases hlt:k<w.files.length
 ·have hlt':(k:Int)<w.files.length:=by omega
  have hg:=jY qS w.files k hlt
  have hs:=zoL w.files k hlt
  have ht:=zmx w.files (k+1)
  have hd:=hw.f _ (List.getElem_mem hlt)
  obtain⟨x,hx⟩:∃x,x=w.files[k]:=⟨_,rfl⟩
  rw[<-hx]at hg hs hd
  obtain⟨m,hm⟩:∃m,m=fsG (w.files.take k):=⟨_,rfl⟩
  rw[<-hm]at hs |-
  have hq:((x.path.length:Int)+x.data.length).tdiv 64=((x.path.length+x.data.length) / 64:Nat):=by
   rw[<-Int.natCast_add];exact(Int.ofNat_tdiv _ _).symm
  generalize (x.path.length+x.data.length) / 64=q at *
  have hs':(fsG (w.files.take (k+1)):Int)=m+(1+q):=by omega
  simp (disch:=omega) [zz,hlt',hg,qS,hq]
  refine hN _ (k+1) ?_ (by omega) (by omega)
  apply Le.of<;>simp[zA,qF,qJ,hs']<;>try omega
 have hkn:k=w.files.length:=by omega
 subst hkn
 have hlt':¬(w.files.length:Int)<w.files.length:=by omega
 simp (disch:=omega) [zz,hlt']
 refine hE _ _ (by simp) ?_
 clear hN hE
 simp (disch:=omega) [zz,hWE]
 refine AT.loop' (α:=Nat) (fun k=>St.of [(1,.loc 1 []),(3,.av (.int .i64) (.i .i64 (fsG w.files+acG (w.acts.take k):Nat))),(28,.av (.slice 34) (.sl .no (w.acts.map zI))),(29,.av (.int .i64) (.i .i64 w.acts.length)),(30,.av (.int .i64) (.i .i64 k))] [(1,(Q7,W))] (fun _=>0) [])
  (fun k=>k<=w.acts.length) (fun k=>w.acts.length-k) 0 ?_ ?_ ?_
 ·apply Le.of<;>simp[zA,qF,qJ,acG,hWE]<;>try omega
 ·omega
 rintro k hk KL hN hE
 refine zrd cf0 ?_
 by_cases hlt:k<w.acts.length
 ·have hlt':(k:Int)<w.acts.length:=by omega
  have hg:=jY zI w.acts k hlt
  have hs:=znE w.acts k hlt
  have ht:=zoA w.acts (k+1)
  have hd:=hw.a _ (List.getElem_mem hlt)
  obtain⟨x,hx⟩:∃x,x=w.acts[k]:=⟨_,rfl⟩
  rw[<-hx]at hg hs hd
  have h1:=zV x.ins
  have h2:=zV x.asks
  have h3:=zV x.outs
  obtain⟨m,hm⟩:∃m,m=fsG w.files+acG (w.acts.take k):=⟨_,rfl⟩
  rw[<-hm]
  have hq:(x.tool.length:Int).tdiv 64=(x.tool.length / 64:Nat):=(Int.ofNat_tdiv _ _).symm
  unfold acN at hs
  generalize x.tool.length / 64=q at *
  have hs':((fsG w.files+acG (w.acts.take (k+1)):Nat):Int)=m+(x.env.length+x.ins.length+x.asks.length+x.outs.length+q):=by omega
  simp (disch:=omega) [zz,hlt',hg,zI,j6,hq,h1,h2,h3]
  refine hN _ (k+1) ?_ (by omega) (by omega)
  apply Le.of<;>simp[zA,qF,qJ,hs']<;>try omega
 have hkn:k=w.acts.length:=by omega
 subst hkn
 have hlt':¬(w.acts.length:Int)<w.acts.length:=by omega
 simp (disch:=omega) [zz,hlt']
 refine hE _ _ (by simp) ?_
 clear hN hE
 have hG:ZE w=(decide (8<w.acts.length)||decide (120<fsG w.files+acG w.acts)||decide (20<w.wants.length)):=rfl
 rw[hG]
 generalize fsG w.files=F at *
 generalize acG w.acts=G at *
 have b1:(8:Int)<w.acts.length<->8<w.acts.length:=by omega
 have b2:(120:Int)<(F:Int)+(G:Int)<->120<F+G:=by omega
 have b3:(20:Int)<w.wants.length<->20<w.wants.length:=by omega
 by_cases c1:8<w.acts.length
 ·simp (disch:=omega) [zz,hWE,b1,c1,Tryz.f7]
 by_cases c2:120<F+G
 ·simp (disch:=omega) [zz,hWE,b1,b2,c1,c2,Tryz.f7]
 ·simp (disch:=omega) [zz,hWE,b1,b2,c1,c2,hsl,b3,Tryz.f7]
noncomputable def xM (w:qQ) (k:Nat):List AV:=(List.range w.acts.length).map fun i=>if i<k/\wT w i then qU (jH (qL w) i) else zn3
theorem zdI (w:qQ) (k:Nat):(xM w k).length=w.acts.length:=by simp[xM]
theorem zij (w:qQ):List.replicate w.acts.length zn3=xM w 0:=by
 unfold xM
 apply List.ext_getElem
 ·simp
 ·intro i h1 h2;simp
theorem zhk (w:qQ) (k:Nat) (hk:k<w.acts.length):xM w (k+1)=if wT w k then(xM w k).set k (qU (jH (qL w) k)) else xM w k:=by
 unfold xM
 split
 ·rename_i h
  apply List.ext_getElem
  ·simp
  ·intro i h1 h2
   rw[List.getElem_set]
   simp only[List.getElem_map,List.getElem_range]
   by_cases hik:k=i
   ·subst hik;rw[if_pos ⟨by omega,h⟩,if_pos rfl]
   ·rw[if_neg hik]
    have:(i<k+1/\wT w i)<->(i<k/\wT w i):=by constructor<;>rintro⟨a,b⟩<;>exact⟨by omega,b⟩
    simp only[this]
 ·rename_i h
  apply List.map_congr_left
  intro i hi
  have:(i<k+1/\wT w i)<->(i<k/\wT w i):=by
   constructor
   ·rintro⟨a,b⟩
    refine⟨?_,b⟩
    rcases Nat.lt_or_ge i k with h3|h3
    ·exact h3
    ·have:i=k:=by omega
     subst this;exact absurd b h
   ·rintro⟨a,b⟩;exact⟨by omega,b⟩
  simp only[this]
theorem zlb (w:qQ):AV.ers (xM w w.acts.length)=(kY w).map qU:=by
 unfold xM kY
 rw[AV.ers_eq,List.map_map,List.map_map]
 apply List.map_congr_left
 intro i hi
 have hi:=List.mem_range.1 hi
 simp only[Function.comp_def]
 by_cases h:wT w i
 ·rw[if_pos ⟨hi,h⟩,if_pos h];exact wM _
 ·rw[if_neg (fun g=>h g.2),if_neg h];rfl
noncomputable def mO (w:qQ) (k:Nat):HObj:=.var (.arr w.acts.length 46) (.agg (xM w k))
theorem zs4 (w:qQ) (k:Nat):(mO w k).er=mO w k:=by
 unfold mO xM
 rw[HObj.er_var]
 simp only[AV.erk,AV.erks_eq,List.map_map]
 congr 2
 apply List.map_congr_left
 intro i _
 simp only[Function.comp_def]
 split
 ·exact zhl _
 ·rfl
abbrev zr0:Cfg:=⟨fun _=>false,fun _=>false⟩
theorem zoJ (ts:List Txt) (v:AV) (H:q8) (hrow:KM ts v H) (hn:ts.length<=1000000000) :
  q7 Tryz.prog 23 [.av (.slice 9) v] H fun r H'=>r=.av (.slice 9) (.sl .no (strs (kH ts)))/\H'=[]:=by
 refine(zbs ts v H hrow hn).freeze laid ?_
 rintro r H' ⟨v',rfl,⟨h1,rfl,rfl⟩|⟨b,cap,j,hj,rfl,hc,rfl⟩⟩ _
 ·exact .inr ⟨by rw[h1];rfl,rfl⟩
 ·refine .inl ⟨b,cap,9,_,[],List.Perm.refl _,?_,rfl⟩
  simp only[CQ,fzA]
  rw[if_pos ⟨trivial,trivial,by omega,by omega⟩,List.drop_zero,List.take_left' (by simp[strs])]
noncomputable def flK (w:qQ) (k:Nat):List jM:=G2 w ((QN w).take k)
theorem zp6 (w:qQ):flK w (QN w).length=G2 w (QN w):=by unfold flK;rw[List.take_length]
theorem zo0 (w:qQ) (k:Nat) (h:k<(QN w).length):flK w (k+1)=flK w k++(zgi w (QN w)[k]).toList:=by
 unfold flK
 rw[List.take_succ_eq_append_getElem h,zhH]
theorem zpg (w:qQ) (k:Nat):(flK w k).length<=(QN w).length:=Nat.le_trans (V9 w _) (by rw[List.length_take];omega)
theorem zkt (w:qQ) (hc:WkC w):q7 Tryz.prog 10 [.av Q7 (j7 w)] [] fun r H' =>
  (QP w=0/\∃M rest,r=.tup [(XE,.agg [.msl M 46 0 w.acts.length w.acts.length,.sl .no ((k9 w).ran.map (.i .i64 ·)),.sl .no [],qH (k9 w).files]),(.int .i64,.i .i64 0)]/\H'=(M,mO w w.acts.length)::rest)\/
  (QP w≠0/\r=.tup [(XE,wE ⟨[],[],[],[]⟩),(.int .i64,.i .i64 (QP w))]):=by
 have hch:=DZ w hc
 have hew:=JW w
 have hbg:=dB w
 obtain⟨W,hW⟩:∃W,W=j7 w:=⟨_,rfl⟩
 have hWE:W=.agg [qH w.files,.sl .no (w.acts.map zI),.sl .no (strs w.wants),.b w.keep]:=hW
 rw[<-hW]at hch hew hbg
 rw[<-hW]
 refine zov Tryz.func10 zr0 fun imm0 w0=>?_
 simp (disch:=omega) [zz]
 refine qG hch rfl rfl (by simp) (by simp[qM,TV.er,hew]) ?_
 by_cases h1:QP w=0
 rotate_left
 ·simp (disch:=omega) [zz,h1,Tryz.f10,wE,qH,yP]
 have hw:=hc.ok h1
 have hwn:w.wants.length<=1000:=by
  unfold QP at h1
  split at h1
  ·exact absurd h1 (by assumption)
  ·split at h1
   ·exact absurd h1 (by assumption)
   ·split at h1
    ·omega
    ·omega
 have han:=hw.n
 simp (disch:=omega) [zz,h1]
 refine qD (R:=fun r H'=>∃B O Y T,r=.av .ptr (.ptr B BdT [])/\H'=bdH B O Y T w [] ⟨[],[]⟩) [] [] (by simp) rfl (by simp[qI]) (by simp) ?_ ?_
 ·simpa[TV.er,hew,q8.er_nil]using hbg
 rintro r H ⟨B,O,Y,T,rfl,rfl⟩ hnd
 refine⟨bdH B O Y T w [] ⟨[],[]⟩,by simpa using HSub.refl _,?_⟩
 have hne:=zjj (by simpa using hnd)
 have n1:=hne.bo
 have m1:¬B=O:=fun e=>n1 e.symm
 obtain⟨WL,hWL⟩:∃WL,WL=QN w:=⟨_,rfl⟩
 have hwl:=uL w
 rw[<-hWL]at hwl
 simp (disch:=omega) [zz,hWE]
 refine⟨by omega,by omega,fun M hM=>?_⟩
 have hMk:¬M=B/\¬M=O/\¬M=Y/\¬M=T:=by
  simpa[bdH,q8.keys,not_or]using hM
 obtain⟨q1,q2,q3,q4⟩:=hMk
 obtain⟨rest,hrest⟩:∃rest,rest=(M,mO w 0)::bdH B O Y T w [] ⟨[],[]⟩:=⟨_,rfl⟩
 have hcl:=zlv w.wants (by omega)
 have hse:AV.ers (strs w.wants)=strs w.wants:=by simp[strs,AV.ers_eq,Function.comp_def,AV.er]
 refine qD (R:=fun r H'=>∃v,r=.av (.slice 9) v/\KM w.wants v H') [] rest (by rw[hrest];unfold mO;rw[<-zij];exact List.Perm.refl _) rfl (by simp[qI]) (by simp) ?_ ?_
 ·simpa[TV.er,AV.er,hse,q8.er_nil]using hcl
 rintro r H1 ⟨v1,rfl,hr1⟩ _
 refine⟨H1++rest,HSub.refl _,?_⟩
 obtain⟨z1,z2⟩:=hr1.er
 simp (disch:=omega) [zz]
 refine qD (R:=fun r H'=>r=.tup []/\KM (kU w.wants) v1 H') H1 rest (List.Perm.refl _) rfl (by simp[qI]) (by simp) ?_ ?_
 ·have:=zaF w.wants v1 H1 hr1 (by omega)
  simpa[TV.er,z1,z2]using this
 rintro r H2 ⟨rfl,hr2⟩ _
 refine⟨H2++rest,HSub.refl _,?_⟩
 obtain⟨z3,z4⟩:=hr2.er
 simp (disch:=omega) [zz]
 refine qD (R:=fun r H'=>r=.av (.slice 9) (.sl .no (strs WL))/\H'=[]) H2 rest (List.Perm.refl _) rfl (by simp[qI]) (by simp) ?_ ?_
 ·have:=zoJ (kU w.wants) v1 H2 hr2 (by rw[ZA];omega)
  rw[hWL]
  simpa[TV.er,z3,z4,QN]using this
 rintro r H3 ⟨rfl,rfl⟩ _
 refine⟨rest,by simpa using HSub.refl _,?_⟩
 rw[hrest]
 have hsl:=zV WL
 simp (disch:=omega) [zz,hsl]
 refine AT.loop' (α:=Nat × BdV) (fun q=>St.of [(1,.loc 1 []),(2,.loc 2 []),(5,.av .ptr (.ptr B BdT [])),(6,.loc 6 []),(34,.av (.slice 9) (.sl .no (strs WL))),(35,.av (.int .i64) (.i .i64 WL.length)),(36,.av (.int .i64) (.i .i64 q.1))]
  [(1,(Q7,W)),(2,(XE,.agg [.sl .full [],.sl .full [],.sl .full [],.sl .full []])),(6,(XE,.agg [.msl M 46 0 w.acts.length w.acts.length,.sl .full [],.sl .full [],.sl (tkG 59 (flK w q.1).length) ((flK w q.1).map qS)]))]
  (fun j=>if j=59 then(flK w q.1).length else 0) ((M,mO w 0)::bdH B O Y T w [] q.2)) (fun q=>q.1<=WL.length/\BuI w (WL.take q.1) q.2) (fun q=>WL.length-q.1) (0,⟨[],[]⟩) ?_ ⟨by omega,.start w⟩ ?_
 ·have h0:flK w 0=[]:=rfl
  apply Le.of<;>simp[zA,qF,qJ,tkG,h0,hWE]<;>try omega
 rintro⟨k,x⟩ ⟨hkn,hbu⟩ KL hN hE
 simp only at hkn hbu hN
 refine zrd zr0 ?_
 by_cases hlt:k<WL.length
 ·have hlt':(k:Int)<WL.length:=by omega
  have hg:=Q5 WL k hlt
  have hfs:=zo0 w k (by rw[<-hWL];exact hlt)
  have htk:WL.take (k+1)=WL.take k++[WL[k]]:=List.take_succ_eq_append_getElem hlt
  obtain⟨p,hp⟩:∃p,p=WL[k]:=⟨_,rfl⟩
  have hpw:(QN w)[k]'(by rw[<-hWL];exact hlt)=p:=by rw[hp];simp only[hWL]
  rw[hpw]at hfs
  have hg2:(strs WL)[k]'(by rw[hsl];exact hlt)=.s p:=by rw[hp];simp[strs]
  rw[<-hp]at hg htk
  have hcome:=zgT B O Y T w hw [] p x hbu.ok fun j hm _=>zaI B O Y T w hw j x hbu.ok (by obtain⟨hj,_⟩:=Q6 hm;exact hj)
  have hHe:=YW B O Y T w [] x
  simp (disch:=omega) [zz,hlt',hg,hg2,hsl]
  refine qD (R:=zms B O Y T w [] p x) (bdH B O Y T w [] x) [(M,mO w 0)] (List.perm_append_comm (l₁:=[_])) rfl (by simp[qI]) (by simp) ?_ ?_
  ·rw[hHe];simpa[TV.er,AV.er]using hcome
  rintro r H' ⟨x',rfl,g1,g2,g3,g4,rfl⟩ _
  refine⟨(M,mO w 0)::bdH B O Y T w [] x',HSub.of_perm (List.perm_append_comm (l₂:=[_])),?_⟩
  have hbu':BuI w (WL.take (k+1)) x':=by rw[htk];exact hbu.step g1 g2 g3 g4
  unfold zgi at hfs
  generalize J9 (qL w) [] p=kc at hfs
  obtain⟨kn,c⟩:=kc
  simp only at hfs
  have hwl3:=zpg w k
  rw[<-hWL]at hwl3
  have hfin:∀e:List jM,flK w (k+1)=flK w k++e->(flK w (k+1)).length=(flK w k).length+e.length:=fun e h=>by rw[h,List.length_append]
  by_cases hyes:c=1/\kn.is=true
  ·rw[if_pos hyes]at hfs
   simp only[Option.toList_some]at hfs
   have hfl:=hfin _ hfs
   simp only[List.length_singleton]at hfl
   obtain⟨y1,y2⟩:=hyes
   simp (disch:=omega) [zz,kA,y1,y2]
   refine KX (by simp) (by simp;omega) (by simp;omega) (by simp) (by simp) ?_
   simp (disch:=omega) [zz]
   refine hN _ (k+1,x') ?_ ⟨by simp only;omega,hbu'⟩ (by simp only;omega)
   rw[hfl,hfs]
   apply Le.of<;>simp[zA,qF,qJ,qS]<;>try omega
   all_goals (intro j;by_cases hj:j=59<;>simp[hj])
  ·rw[if_neg hyes]at hfs
   simp only[Option.toList_none,List.append_nil]at hfs
   by_cases y1:c=1
   ·have y2:kn.is=false:=by simpa[y1]using hyes
    simp (disch:=omega) [zz,kA,y1,y2]
    refine hN _ (k+1,x') ?_ ⟨by simp only;omega,hbu'⟩ (by simp only;omega)
    rw[hfs]
    apply Le.of<;>simp[zA,qF,qJ]<;>try omega
   ·simp (disch:=omega) [zz,kA,y1]
    refine hN _ (k+1,x') ?_ ⟨by simp only;omega,hbu'⟩ (by simp only;omega)
    rw[hfs]
    apply Le.of<;>simp[zA,qF,qJ]<;>try omega
 ·have hkn2:k=WL.length:=by omega
  subst hkn2
  have hlt':¬(WL.length:Int)<WL.length:=by omega
  rw[List.take_length]at hbu
  rw[hWL]at hbu
  simp (disch:=omega) [zz,hlt',hsl]
  refine hE _ _ (by simp) ?_
  clear hN hE
  have hHe:=YW B O Y T w [] x
  have hfnd:=fun j=>BuI.find hbu j
  obtain⟨F,hF⟩:∃F,F=flK w WL.length:=⟨_,rfl⟩
  rw[<-hF]
  have hr0:CW w 0=[]:=rfl
  simp (disch:=omega) [zz,hWE]
  refine AT.loop' (α:=Nat) (fun k=>St.of [(2,.loc 2 []),(5,.av .ptr (.ptr B BdT [])),(6,.loc 6 []),(64,.av (.int .i64) (.i .i64 w.acts.length)),(65,.av (.int .i64) (.i .i64 k))]
   [(2,(XE,.agg [.sl .full [],.sl .full [],.sl .full [],.sl .full []])),(6,(XE,.agg [.msl M 46 0 w.acts.length w.acts.length,.sl (tkG 87 (CW w k).length) ((CW w k).map (.i .i64 ·)),.sl .full [],.sl (tkG 59 F.length) (F.map qS)]))]
   (fun j=>if j=87 then(CW w k).length else if j=59 then F.length else 0) ((M,mO w k)::bdH B O Y T w [] x)) (fun k=>k<=w.acts.length) (fun k=>w.acts.length-k) 0 ?_ (by omega) ?_
  ·apply Le.of<;>simp[zA,qF,qJ,tkG,hr0]<;>try omega
   intro j;by_cases h8:j=87<;>by_cases h5:j=59<;>simp[h8,h5]<;>omega
  rintro k hk KL hN hE
  refine zrd zr0 ?_
  by_cases hlt:k<w.acts.length
  ·have hlt':(k:Int)<w.acts.length:=by omega
   have hf:=hfnd k
   have hos:=zhk w k hlt
   have hrs:=zki w k
   have hrl:=zlP w k
   have hol:=zdI w k
   by_cases ha:wT w k
   ·rw[if_pos ha]at hf hos hrs
    have hrl2:(CW w (k+1)).length=(CW w k).length+1:=by rw[hrs];simp
    have hm:(M,mO w (k+1))=(M,HObj.var (.arr w.acts.length 46) (.agg ((xM w k).set k (qU (jH (qL w) k))))):=by unfold mO;rw[hos]
    simp (disch:=omega) [zz,hlt',WZ,q1,q2,q3,q4,n1,m1,hf,mO,hol,hlt]
    refine KX (by simp) (by simp;omega) (by simp;omega) (by simp) (by simp) ?_
    simp (disch:=omega) [zz]
    refine hN _ (k+1) ?_ (by omega) (by omega)
    rw[hm,hrl2,hrs]
    apply Le.of<;>simp[zA,qF,qJ,WZ]<;>try omega
    all_goals (intro j;by_cases h8:j=87<;>by_cases h5:j=59<;>simp[h8,h5])
   ·rw[if_neg ha]at hf hos hrs
    have hm:(M,mO w (k+1))=(M,mO w k):=by unfold mO;rw[hos]
    rw[List.append_nil]at hrs
    simp (disch:=omega) [zz,hlt',WZ,q1,q2,q3,q4,n1,m1,hf]
    refine hN _ (k+1) ?_ (by omega) (by omega)
    rw[hm,hrs]
    apply Le.of<;>simp[zA,qF,qJ,WZ]<;>try omega
  ·have hkn3:k=w.acts.length:=by omega
   subst hkn3
   have hlt':¬(w.acts.length:Int)<w.acts.length:=by omega
   simp (disch:=omega) [zz,hlt']
   refine hE _ _ (by simp) ?_
   clear hN hE
   have hme:=zs4 w w.acts.length
   have hff:F=(k9 w).files:=by rw[hF,hWL,zp6];rfl
   simp (disch:=omega) [zz,Tryz.f10,q8.er_cons,hme,hHe]
   refine⟨?_,?_⟩
   ·rw[AV.ers_eq,List.map_map];rfl
   ·rw[hff];exact jJ _
theorem XQ (w:qQ) (hc:WkC w):PC Tryz.prog 10 [.av Q7 (j7 w)] (.tup [(XE,wE (zfa w).1),(.int .i64,.i .i64 (zfa w).2)]):=by
 have h0:=q7.freeze laid (R':=fun r _ =>
  (QP w=0/\r=.tup [(XE,.agg [.sl .no (xM w w.acts.length),.sl .no ((k9 w).ran.map (.i .i64 ·)),.sl .no [],qH (k9 w).files]),(.int .i64,.i .i64 0)])\/
  (QP w≠0/\r=.tup [(XE,wE ⟨[],[],[],[]⟩),(.int .i64,.i .i64 (QP w))])) (zkt w hc) (by
  rintro r H' (⟨h,M,rest,rfl,rfl⟩|⟨h,rfl⟩) _
  ·refine .inl ⟨M,_,_,_,rest,List.Perm.refl _,.inl ⟨h,?_⟩⟩
   simp only[CQ,List.map_cons,List.map_nil,fzA,zax,qH]
   rw[if_pos ⟨trivial,trivial,by omega,by omega⟩,List.drop_zero,List.take_of_length_le (by rw[zdI];exact Nat.le_refl _)]
  ·exact .inr (.inr ⟨h,rfl⟩))
 refine q7.sub (q7.erR h0) ?_
 rintro r H' ⟨r0,⟨h,rfl⟩|⟨h,rfl⟩,rfl⟩ _
 ·refine⟨[],HSub.of_sub (List.nil_sublist _),?_,rfl⟩
  have e1:=jJ (k9 w).files
  unfold zfa
  rw[if_neg (by simp[h])]
  simp only[TV.er,List.map_cons,List.map_nil,AV.er,AV.ers,e1,zlb]
  simp[wE,yP,AV.ers_eq,Function.comp_def,AV.er,k9]
 ·refine⟨[],HSub.of_sub (List.nil_sublist _),?_,rfl⟩
  unfold zfa
  rw[if_pos h]
  rfl
end
section
variable [Sel]
def w6 (n:Nat):AV:=.i .i64 (n:Int)
def kJ (l:List Nat):AV:=.sl .no (l.map w6)
theorem zg8 (l:List Nat):(kJ l).er=kJ l:=by simp[kJ,AV.er,AV.ers_eq,Function.comp_def,w6]
theorem DR (ts:List Nat) (x:Nat) (hn:ts.length<=1000000000):PC Tryz.prog 29 [.av (.slice 3) (kJ ts),.av (.int .i64) (w6 x)] (.av (.int .i64) (.i .i64 (ZP (fun y=>decide (y=x)) ts))):=by
 refine zow Tryz.func29 cf0 fun imm0 w0=>?_
 simp (disch:=omega) [zz,kJ,w6]
 refine AT.loop' (α:=Nat) (fun k=>St.of [(0,.av (.slice 3) (kJ ts)),(1,.av (.int .i64) (w6 x)),(7,.av (.int .i64) (.i .i64 ts.length)),(8,.av (.int .i64) (.i .i64 k))] [] (fun _=>0) [])
  (fun k=>k<=ts.length/\∀y∈ts.take k,(fun y=>decide (y=x)) y=false) (fun k=>ts.length-k) 0 ?_ ?_ ?_
 ·apply Le.of<;>simp[zA,qF,qJ,kJ,w6]<;>try omega
 ·simp
 rintro k ⟨hk',hpk⟩ KL hN hE
 refine zrd cf0 ?_
 by_cases hlt:k<ts.length
 ·have hlt':(k:Int)<ts.length:=by omega
  have hg:=jY w6 ts k hlt
  by_cases hp:ts[k]=x
  ·have hi:=W6 (p:=fun y=>decide (y=x)) hlt hpk (by simpa using hp)
   generalize ts[k]=y at *
   subst hp
   simp (disch:=omega) [zz,hlt',hg,kJ,w6]
   refine hE _ _ (by simp) ?_
   simp (disch:=omega) [zz,Tryz.f29,hi]
  ·have hp':¬x=ts[k]:=fun e=>hp e.symm
   have hp2:¬((x:Int)=(ts[k]:Nat)):=fun e=>hp' (by omega)
   simp (disch:=omega) [zz,hlt',hg,hp',hp2,kJ,w6]
   refine hN _ (k+1) ?_ ⟨by omega,by rw[yG hlt];exact⟨hpk,by simpa using hp⟩⟩ (by omega)
   apply Le.of<;>simp[zA,qF,qJ,kJ,w6]<;>try omega
 ·have hlt':¬(k:Int)<ts.length:=by omega
  simp (disch:=omega) [zz,hlt',kJ,w6]
  refine hE _ _ (by simp) ?_
  rw[List.take_of_length_le (by omega)]at hpk
  simp (disch:=omega) [zz,Tryz.f29,K0 (p:=fun y=>decide (y=x)) hpk]
theorem ze6 (ts:List Nat) (x:Nat) (hn:ts.length<=1000000000):PC Tryz.prog 27 [.av (.slice 3) (kJ ts),.av (.int .i64) (w6 x)] (.av .bool (.b (decide (x∈ts)))):=by
 have hee:=zg8 ts
 have hex:(w6 x).er=w6 x:=by simp[w6,AV.er]
 refine zow Tryz.func27 cf0 fun imm0 w0=>?_
 simp (disch:=omega) [zz]
 refine qG (DR ts x hn) rfl rfl (by simp) (by simp[qM,TV.er,AV.er,hee,hex]) ?_
 rcases JZ (fun y=>decide (y=x)) ts with⟨he,hall⟩|⟨i,hi,he,hs,_⟩
 ·have:¬x∈ts:=fun h=>by have:=hall x h;simp at this
  simp (disch:=omega) [zz,he,this,Tryz.f27]
 ·have h1:x∈ts:=by simp at hs;rw[<-hs];exact List.getElem_mem hi
  have h2:(0:Int)<=i:=by omega
  simp (disch:=omega) [zz,he,h1,h2,Tryz.f27]
def XA (x:Nat) (l:List Nat):Nat:=l.foldl Nat.min x
theorem zpA (x:Nat) (l:List Nat) (hn:l.length<=1000000000):PC Tryz.prog 30 [.av (.slice 3) (kJ (x::l))] (.av (.int .i64) (w6 (XA x l))):=by
 obtain⟨ts,hts⟩:∃ts,ts=x::l:=⟨_,rfl⟩
 have hlen:ts.length=l.length+1:=by rw[hts];rfl
 have hg0:(ts.map w6)[0]?=some (w6 x):=by rw[hts];rfl
 rw[<-hts]
 have h1:¬(ts.length:Int)<1:=by omega
 have h0:0<ts.length:=by omega
 refine zow Tryz.func30 cf0 fun imm0 w0=>?_
 simp (disch:=omega) [zz,kJ,h1,h0,hg0]
 refine AT.loop' (α:=Nat) (fun k=>St.of [(0,.av (.slice 3) (kJ ts)),(3,.av (.int .i64) (w6 (XA x (l.take k)))),(4,.av (.int .i64) (.i .i64 ((k:Int)+1)))] [] (fun _=>0) [])
  (fun k=>k<=l.length) (fun k=>l.length-k) 0 ?_ ?_ ?_
 ·apply Le.of<;>simp[zA,qF,qJ,kJ,w6,XA]<;>try omega
 ·omega
 rintro k hk KL hN hE
 refine zrd cf0 ?_
 by_cases hlt:k<l.length
 ·have hlt':(k:Int)+1<ts.length:=by omega
  have hg:(ts.map w6)[k+1]?=some (w6 l[k]):=by rw[hts];simp[hlt]
  have hk1:((k:Int)+1).toNat=k+1:=by omega
  have hge:(0:Int)<=(k:Int)+1:=by omega
  have hlt2:k+1<ts.length:=by omega
  have hst:XA x (l.take (k+1))=Nat.min (XA x (l.take k)) l[k]:=by
   unfold XA;rw[List.take_succ_eq_append_getElem hlt,List.foldl_append];rfl
  generalize l[k]=y at *
  simp (disch:=omega) [zz,hlt',hg,hk1,hge,hlt2,kJ,w6]
  have hmin:(if y<XA x (l.take k) then(y:Int) else(XA x (l.take k):Nat))=((XA x (l.take (k+1)):Nat):Int):=by
   rw[hst]
   have:Nat.min (XA x (l.take k)) y=min (XA x (l.take k)) y:=rfl
   rw[this]
   split<;>omega
  refine hN _ (k+1) ?_ (by omega) (by omega)
  apply Le.of<;>simp[zA,qF,qJ,hmin,kJ,w6]<;>try omega
 ·have hlt':¬(k:Int)+1<ts.length:=by omega
  simp (disch:=omega) [zz,hlt',kJ,w6]
  refine hE _ _ (by simp) ?_
  rw[List.take_of_length_le (by omega)]
  simp (disch:=omega) [zz,Tryz.f30,w6]
def z64:AV:=.i .i64 0
noncomputable def rwI (cap:Nat) (xs:List Nat):HObj:=.var (.arr cap 3) (.agg (xs.map w6++List.replicate (cap-xs.length) z64))
theorem zlR (cap:Nat) (xs:List Nat):(rwI cap xs).er=rwI cap xs:=by
 simp[rwI,HObj.er_var,AV.erk,AV.erks_eq,Function.comp_def,w6,z64]
def GrR (n:Nat) (r:TV) (H':q8):Prop:=∃b cap,n<=cap/\r=.av (.slice 3) (.msl b 3 0 0 cap)/\H'=[(b,rwI cap [])]
theorem zoF (n:Nat) (h0:0<n) (hn:n<=1000000000):q7 Tryz.prog 53 [.cst (.slice none 0 0),.av (.int .i64) (.i .i64 n)] [] (GrR n):=by
 refine q7.argNil (e:=3) ?_
 have h1:¬(n:Int)<0:=by omega
 have h2:(0:Int)<n:=by omega
 refine zov Tryz.func53 cf0 fun imm0 w0=>?_
 simp (disch:=omega) [zz,h1,h2]
 refine⟨fun _=>⟨h0,⟨by omega,by omega⟩,fun b cap hc=>⟨hc,?_⟩⟩,fun h=>by omega⟩
 simp (disch:=omega) [zz,Tryz.f53]
 have he:=zlR cap []
 exact⟨b,cap,hc,rfl,by simpa[rwI,z64,HObj.er_var,AV.erk]using he⟩
def XS (ls:List (List Nat)) (k:Nat):List Nat:=(ls.take k).flatten
theorem zos (ls:List (List Nat)):XS ls ls.length=ls.flatten:=by unfold XS;rw[List.take_length]
theorem zd4 (ls:List (List Nat)) (k:Nat) (h:k<ls.length):XS ls (k+1)=XS ls k++ls[k]:=by
 unfold XS
 rw[List.take_succ_eq_append_getElem h,List.flatten_append];simp
theorem zjN (ls:List (List Nat)) (k:Nat):(XS ls k).length<=ls.flatten.length:=by
 unfold XS
 conv=>rhs;rw[<-List.take_append_drop k ls,List.flatten_append,List.length_append]
 omega
theorem zpe {cap:Nat} {xs ys:List Nat} (h:xs.length+ys.length<=cap) :
  (xs.map w6++List.replicate (cap-xs.length) z64).take xs.length++ys.map w6++(xs.map w6++List.replicate (cap-xs.length) z64).drop (xs.length+ys.length)=(xs++ys).map w6++List.replicate (cap-(xs++ys).length) z64:=by
 rw[List.take_left' (by simp),<-List.drop_drop,List.drop_left' (by simp),List.drop_replicate,List.map_append,List.length_append]
 congr 2
 omega
theorem zin (ls:List (List Nat)) (F:List Nat) (hF:F=ls.flatten) (h0:0<F.length) (hn:F.length<=1000000000) (hk:ls.length<=1000000000) :
  q7 Tryz.prog 31 [.av (.slice 36) (.sl .no (ls.map kJ))] [] fun r H'=>∃b cap,F.length<=cap/\r=.av (.slice 3) (.msl b 3 0 F.length cap)/\H'=[(b,rwI cap F)]:=by
 have hF0:=zos ls
 rw[<-hF]at hF0
 have hz0:XS ls 0=[]:=rfl
 refine zov Tryz.func31 cf0 fun imm0 w0=>?_
 simp (disch:=omega) [zz]
 refine AT.loop' (α:=Nat) (fun k=>St.of [(0,.av (.slice 36) (.sl .no (ls.map kJ))),(3,.av (.int .i64) (.i .i64 (XS ls k).length)),(9,.av (.slice 36) (.sl .no (ls.map kJ))),(10,.av (.int .i64) (.i .i64 ls.length)),(11,.av (.int .i64) (.i .i64 k))] [] (fun _=>0) [])
  (fun k=>k<=ls.length) (fun k=>ls.length-k) 0 ?_ ?_ ?_
 ·apply Le.of<;>simp[zA,qF,qJ,hz0]<;>try omega
 ·omega
 rintro k hk KL hN hE
 refine zrd cf0 ?_
 by_cases hlt:k<ls.length
 ·have hlt':(k:Int)<ls.length:=by omega
  have hg:=jY kJ ls k hlt
  have hs:=congrArg List.length (zd4 ls k hlt)
  have hle:=zjN ls (k+1)
  rw[<-hF]at hle
  rw[List.length_append]at hs
  have hng:¬(((XS ls k).length:Int)+ls[k].length<0):=by omega
  have hs':((XS ls (k+1)).length:Int)=(XS ls k).length+ls[k].length:=by omega
  generalize (XS ls k).length=m at *
  simp (disch:=omega) [zz,hlt',hg,kJ,hng]
  refine hN _ (k+1) ?_ (by omega) (by omega)
  apply Le.of<;>simp[zA,qF,qJ,hs',kJ]<;>try omega
 have hkn:k=ls.length:=by omega
 subst hkn
 have hlt':¬(ls.length:Int)<ls.length:=by omega
 simp (disch:=omega) [zz,hlt']
 refine hE _ _ (by simp) ?_
 rw[hF0]
 clear hN hE
 simp (disch:=omega) [zz]
 refine wZ (R:=GrR F.length) rfl (by simp[qI]) (by simp) ?_ ?_
 ·simpa[TV.er,AV.er,q8.er_nil]using zoF F.length h0 hn
 rintro r H ⟨b,cap,hcap,rfl,rfl⟩
 simp (disch:=omega) [zz]
 refine AT.loop' (α:=Nat) (fun k=>St.of [(6,.av (.slice 3) (.msl b 3 0 (XS ls k).length cap)),(25,.av (.slice 36) (.sl .no (ls.map kJ))),(26,.av (.int .i64) (.i .i64 ls.length)),(27,.av (.int .i64) (.i .i64 k))] [] (fun _=>0) [(b,rwI cap (XS ls k))])
  (fun k=>k<=ls.length) (fun k=>ls.length-k) 0 ?_ ?_ ?_
 ·apply Le.of<;>simp[zA,qF,qJ,hz0]<;>try omega
 ·omega
 rintro k hk KL hN hE
 refine zrd cf0 ?_
 by_cases hlt:k<ls.length
 ·have hlt':(k:Int)<ls.length:=by omega
  have hg:=jY kJ ls k hlt
  have hst:=zd4 ls k hlt
  have hs:=congrArg List.length hst
  have hle:=zjN ls (k+1)
  rw[<-hF]at hle
  rw[List.length_append]at hs
  have hput:=zpe (cap:=cap) (xs:=XS ls k) (ys:=ls[k]) (by omega)
  rw[<-hst]at hput
  have hng:¬cap<(XS ls k).length+ls[k].length:=by omega
  have hng2:(XS ls k).length+ls[k].length<=cap:=by omega
  simp (disch:=omega) [zz,hlt',hg,kJ,rwI,hng,hng2]
  refine⟨by omega,⟨by omega,by omega⟩,?_⟩
  have hs':(XS ls (k+1)).length=(XS ls k).length+ls[k].length:=hs
  refine hN _ (k+1) ?_ (by omega) (by omega)
  apply Le.of<;>simp[zA,qF,qJ,rwI,kJ,hs']<;>try omega
  rw[hs',List.take_left' (by simp),List.append_assoc]at hput
  exact hput.symm
 have hkn:k=ls.length:=by omega
 subst hkn
 have hlt':¬(ls.length:Int)<ls.length:=by omega
 simp (disch:=omega) [zz,hlt']
 refine hE _ _ (by simp) ?_
 rw[hF0]
 have he:=zlR cap F
 simp (disch:=omega) [zz,Tryz.f31,he]
 exact⟨b,cap,by omega,⟨rfl,rfl⟩,rfl,rfl⟩
theorem zhG (ls:List (List Nat)) (h0:0<ls.flatten.length) (hn:ls.flatten.length<=1000000000) (hk:ls.length<=1000000000) :
  PC Tryz.prog 31 [.av (.slice 36) (.sl .no (ls.map kJ))] (.av (.slice 3) (kJ ls.flatten)):=by
 refine(zin ls _ rfl h0 hn hk).freeze laid ?_
 rintro r H' ⟨b,cap,h1,rfl,rfl⟩ _
 refine .inl ⟨b,cap,3,_,[],List.Perm.refl _,?_,rfl⟩
 simp only[CQ,fzA]
 rw[if_pos ⟨trivial,trivial,by omega,by omega⟩,List.drop_zero,List.take_left' (by rw[List.length_map])]
 rfl
end
section
variable [Sel] [SelPow] [SelMax]
def itF (f:Nat->Nat):Nat->Nat->Nat
 | 0,i=>i
 | k+1,i=>itF f k (f i)
theorem QV (f:Nat->Nat):∀(a b i:Nat),itF f (a+b) i=itF f b (itF f a i)
 | 0,b,i=>by rw[Nat.zero_add];rfl
 | a+1,b,i=>by
  rw[show a+1+b=(a+b)+1 from by omega]
  exact QV f a b (f i)
theorem pP (f:Nat->Nat) (k i:Nat):itF f (k+1) i=f (itF f k i):=QV f k 1 i
def orb (f:Nat->Nat) (i n:Nat):List Nat:=(List.range n).map fun k=>itF f k i
theorem yV (f:Nat->Nat) (i n:Nat):(orb f i n).length=n:=by simp[orb]
theorem za3 (f:Nat->Nat) (i n k:Nat) (h:k<(orb f i n).length):(orb f i n)[k]=itF f k i:=by simp[orb]
theorem Y7 {f:Nat->Nat} {i n j:Nat}:j∈orb f i n<->∃k,k<n/\itF f k i=j:=by simp[orb]
theorem vO (f:Nat->Nat) (i n:Nat):orb f i (n+1)=orb f i n++[itF f n i]:=by simp[orb,List.range_succ]
theorem za0 (f:Nat->Nat) (i a:Nat):∀b:Nat,orb f i (a+b)=orb f i a++orb f (itF f a i) b
 | 0=>by simp[orb]
 | b+1=>by rw[<-Nat.add_assoc,vO,za0 f i a b,vO,QV,List.append_assoc]
def KG (f:Nat->Nat) (l:List Nat):Prop:=∃h n,0<n/\l=orb f h n/\itF f n h=h/\l.Nodup/\∀j∈l,h<=j
theorem zpa {f:Nat->Nat} {h n:Nat} (hn:0<n) (hp:itF f n h=h):∀t,itF f t h∈orb f h n:=by
 intro t
 induction t using Nat.strongRecOn with
 | ind t ih =>
  by_cases ht:t<n
  ·exact Y7.2 ⟨t,ht,rfl⟩
  ·have:=ih (t-n) (by omega)
   rw[show t=n+(t-n) from by omega,QV,hp]
   exact this
theorem KG.step {f:Nat->Nat} {l:List Nat} (hl:KG f l) {j:Nat} (hj:j∈l) (t:Nat):itF f t j∈l:=by
 obtain⟨h,n,hn,rfl,hp,_,_⟩:=hl
 obtain⟨k,_,rfl⟩:=Y7.1 hj
 rw[<-QV]
 grind [zpa]
theorem KG.eq {f:Nat->Nat} {l m:List Nat} (hl:KG f l) (hm:KG f m) {j:Nat} (h1:j∈l) (h2:j∈m):l=m:=by
 have key:∀ {l m:List Nat} {h n:Nat},0<n->l=orb f h n->itF f n h=h->KG f m->j∈l->j∈m->h∈m:=by
  intro l m h n hn e hp hm h1 h2
  rw[e]at h1
  obtain⟨k,hk,rfl⟩:=Y7.1 h1
  have:=hm.step h2 (n-k)
  rw[<-QV,show k+(n-k)=n from by omega,hp]at this
  exact this
 have hl':=hl
 have hm':=hm
 obtain⟨h,n,hn,e1,hp,hd,hle⟩:=hl
 obtain⟨g,k,hk,e2,hq,hd2,hle2⟩:=hm
 have a1:=hle2 _ (key hn e1 hp hm' h1 h2)
 have a2:=hle _ (key hk e2 hq hl' h2 h1)
 have e:h=g:=by omega
 subst e
 have hnk:∀ {n k:Nat} {m:List Nat},0<n->n<k->itF f n h=h->m=orb f h k->m.Nodup->False:=by
  intro n k m hn hlt hp e hd
  subst e
  have hd:=List.pairwise_iff_getElem.1 hd 0 n (by grind [yV]) (by simp_all[yV]) hn
  rw[za3,za3,hp]at hd
  exact hd rfl
 grind
theorem KG.ne {f:Nat->Nat} {l:List Nat} (hl:KG f l):l≠[]:=by
 obtain⟨h,n,hn,rfl,_⟩:=hl
 intro e
 have:=congrArg List.length e
 grind [yV]
theorem KG.head {f:Nat->Nat} {l:List Nat} (hl:KG f l):∃h r,l=h::r/\∀j∈l,h<=j:=by
 obtain⟨h,n,hn,rfl,_,_,hm⟩:=hl
 obtain⟨k,rfl⟩:∃k,n=k+1:=⟨n-1,by omega⟩
 refine⟨h,orb f (f h) k,?_,hm⟩
 rw[Nat.add_comm,za0]
 rfl
noncomputable def vC (f:Nat->Nat) (i:Nat):List Nat:=if h:∃l,KG f l/\∃t,itF f t i∈l then h.choose else []
theorem pM {f:Nat->Nat} {i t:Nat} {l:List Nat} (hl:KG f l) (ht:itF f t i∈l):vC f i=l:=by
 have h:∃l,KG f l/\∃t,itF f t i∈l:=⟨l,hl,t,ht⟩
 unfold vC
 rw[dif_pos h]
 obtain⟨h1,s,h2⟩:=h.choose_spec
 have a:=h1.step h2 t
 have b:=hl.step ht s
 rw[<-QV]at a b
 rw[Nat.add_comm]at b
 exact h1.eq hl a b
theorem DU {f:Nat->Nat} {i k a at':Nat} {r:List Nat} (hd:(orb f i k).Nodup) (ha:a<k) (he:itF f a i=itF f k i) (hr:r=(orb f i k).drop a)
  (hat:at'<r.length) (hm:∀j∈r,r[at']<=j):KG f (r.drop at'++r.take at')/\itF f (a+at') i∈r.drop at'++r.take at':=by
 obtain⟨n,rfl⟩:∃n,k=a+n:=⟨k-a,by omega⟩
 have hr2:r=orb f (itF f a i) n:=by
  simp_all[za0,yV]
 rw[QV]at he
 obtain⟨h,hh⟩:∃h,h=itF f a i:=⟨_,rfl⟩
 rw[<-hh]at he hr2
 have hn:r.length=n:=by rw[hr2,yV]
 have hlt:at'<n:=by omega
 have hdr:r.Nodup:=by grind
 obtain⟨m,rfl⟩:∃m,n=at'+m:=⟨n-at',by omega⟩
 have hp:itF f (at'+m) h=h:=he.symm
 have e1:r.drop at'++r.take at'=orb f (itF f at' h) (at'+m):=by
  grind [za0,yV,QV]
 have k8:r[at']=itF f at' h:=by
  grind [za3]
 have hmem:∀j,j∈r.drop at'++r.take at'<->j∈r:=fun j=>by
  rw[List.mem_append,Or.comm,<-List.mem_append,List.take_append_drop]
 refine⟨⟨itF f at' h,at'+m,by omega,e1,?_,?_,?_⟩,?_⟩
 ·rw[<-QV,Nat.add_comm at' (at'+m),QV,hp]
 ·grind [List.take_append_drop]
 ·grind
 grind [QV]
theorem zmR {f:Nat->Nat} {i k a at':Nat} {r:List Nat} (hd:(orb f i k).Nodup) (ha:a<k) (he:itF f a i=itF f k i) (hr:r=(orb f i k).drop a)
  (hat:at'<r.length) (hm:∀j∈r,r[at']<=j):vC f i=r.drop at'++r.take at' :=
 pM (DU hd ha he hr hat hm).1 (DU hd ha he hr hat hm).2
noncomputable def K2 (S:kV) (i:Nat):Nat:=(S.who (JI S i).asks).getD 0
theorem zdh {S:kV} {i m:Nat} (he:zi5 S i) (h:jI S i=none) (hm:S.who (JI S i).asks=some m):jI S m=none:=by
 obtain⟨b,hb⟩:=he
 have e:JI S i=b:=by simp_all[JI]
 rw[e]at hm
 cases hl:jI S m with
 | none=>rfl
 | some o =>
  exfalso
  by_cases ho:b.over=true
  ·rw[(zbK ⟨b,hb⟩ (KV 600 hb) ho).2]at h;cases h
  ·rcases zdd hl with hk|hk
   ·rcases VE 600 hb with h1|h1
    ·exact ho h1
    simp_all[kF]
   ·rw[(zbi ⟨b,hb⟩ (KV 600 hb) (by simp_all) hm hl hk).2]at h;cases h
theorem zgy (i:Nat):∀l:List (Nat × Txt),yK (.i .i64 (i:Int)) (wtE l)=(l.find? fun p=>decide (p.1=i)).map fun p=>.s p.2
 | []=>rfl
 | p::l=>by
  have ih:=zgy i l
  simp only[wtE,List.map_cons,yK,xR,List.find?_cons]at ih |-
  by_cases h:p.1=i
  ·simp[h]
  ·simp[h,ih]
theorem zaW {w:qQ} (hw:gA w) {x:BdV} (hx:WP (qL w) w.acts.length [] x) {i:Nat} (hi:i∈x.ov.map Prod.fst) (hl:jI (qL w) i=none) :
  ∀k,let j:=itF (K2 (qL w)) k i;j∈x.ov.map Prod.fst/\jI (qL w) j=none
 | 0=>⟨hi,hl⟩
 | k+1=>by
  obtain⟨h1,h2⟩:=zaW hw hx hi hl k
  simp only[pP]
  generalize itF (K2 (qL w)) k i=j at h1 h2
  obtain⟨p,hp,rfl⟩:=List.mem_map.1 h1
  obtain⟨_,m,h3,h4⟩:=hx.st p hp h2
  have he:=(v8 hw (hx.fin p hp).1).1
  have hm:K2 (qL w) p.1=m:=by unfold K2;rw[h3];rfl
  rw[hm]
  exact⟨by simpa using h4,zdh he h2 h3⟩
theorem zk7 {w:qQ} {x:BdV} (hx:WP (qL w) w.acts.length [] x) {j:Nat} (hj:j∈x.ov.map Prod.fst) (hl:jI (qL w) j=none) :
  x.wt.find? (fun q=>decide (q.1=j))=some (j,(JI (qL w) j).asks)/\jK w.acts (JI (qL w) j).asks=some (K2 (qL w) j):=by
 obtain⟨p,hp,rfl⟩:=List.mem_map.1 hj
 obtain⟨h1,m,h3,_⟩:=hx.st p hp hl
 refine⟨h1,?_⟩
 unfold K2
 rw[h3]
 exact h3
theorem zjd (x:Nat):∀l:List Nat,XA x l<=x/\∀y∈l,XA x l<=y:=by
 intro l
 induction l generalizing x with
 | nil=>simp[XA]
 | cons a l ih =>
  have h:=ih (Nat.min x a)
  have e:XA x (a::l)=XA (Nat.min x a) l:=rfl
  have h1:Nat.min x a<=x:=Nat.min_le_left x a
  have h2:Nat.min x a<=a:=Nat.min_le_right x a
  rw[e]
  refine⟨by omega,fun y hy=>?_⟩
  rcases List.mem_cons.1 hy with rfl|hy
  ·omega
  ·exact h.2 y hy
theorem zfp (x:Nat):∀l:List Nat,XA x l∈x::l:=by
 intro l
 induction l generalizing x with
 | nil=>simp[XA]
 | cons a l ih =>
  have h:=ih (Nat.min x a)
  have e:XA x (a::l)=XA (Nat.min x a) l:=rfl
  rw[e]
  rcases List.mem_cons.1 h with h|h
  ·rw[h]
   have:Nat.min x a=x\/Nat.min x a=a:=by
    rcases Nat.le_total x a with g|g
    ·exact .inl (Nat.min_eq_left g)
    ·exact .inr (Nat.min_eq_right g)
   rcases this with g|g<;>rw[g]<;>simp
  ·simp[h]
noncomputable def C5 (w:qQ) (i:Int):List Nat :=
 if QP w=0/\0<=i/\i<w.acts.length then if (jH (qL w) i.toNat).kind=3 then vC (K2 (qL w)) i.toNat else [] else []
abbrev zsM:Cfg:=⟨fun _=>false,fun _=>false⟩
theorem zjT (w:qQ) (hc:WkC w) (i:Int):PC Tryz.prog 14 [.av Q7 (j7 w),.av (.int .i64) (.i .i64 i)] (.av (.slice 3) (kJ (C5 w i))):=by
 refine q7.sub (R:=fun r H'=>r=.av (.slice 3) (kJ (C5 w i))) ?_ (fun r H' hr _=>⟨[],HSub.of_sub (List.nil_sublist _),hr,rfl⟩)
 obtain⟨V,hV⟩:∃V,V=C5 w i:=⟨_,rfl⟩
 rw[<-hV]
 unfold C5 at hV
 have hch:=DZ w hc
 have hew:=JW w
 have hbg:=dB w
 obtain⟨W,hW⟩:∃W,W=j7 w:=⟨_,rfl⟩
 have hWE:W=.agg [qH w.files,.sl .no (w.acts.map zI),.sl .no (strs w.wants),.b w.keep]:=hW
 rw[<-hW]at hch hew hbg
 rw[<-hW]
 refine zov Tryz.func14 zsM fun imm0 w0=>?_
 simp (disch:=omega) [zz]
 refine qG hch rfl rfl (by simp) (by simp[qM,TV.er,hew]) ?_
 by_cases h1:QP w=0
 rotate_left
 ·rw[if_neg (by simp[h1])]at hV
  subst hV
  simp (disch:=omega) [zz,h1,Tryz.f14,kJ]
 by_cases h2:i<0
 ·rw[if_neg (by omega)]at hV
  subst hV
  simp (disch:=omega) [zz,h1,h2,Tryz.f14,kJ]
 by_cases h3:(w.acts.length:Int)<=i
 ·rw[if_neg (by omega)]at hV
  subst hV
  simp (disch:=omega) [zz,h1,h2,hWE,h3,Tryz.f14,kJ]
 rw[if_pos (by omega)]at hV
 obtain⟨n,rfl⟩:∃n:Nat,i=n:=⟨i.toNat,by omega⟩
 have hn:n<w.acts.length:=by omega
 have hw:=hc.ok h1
 rw[Int.toNat_natCast]at hV
 simp (disch:=omega) [zz,h1,h2,hWE,h3]
 refine qD (R:=fun r H'=>∃B O Y T,r=.av .ptr (.ptr B BdT [])/\H'=bdH B O Y T w [] ⟨[],[]⟩) [] [] (by simp) rfl (by simp[qI]) (by simp) ?_ ?_
 ·rw[<-hWE]
  simpa[TV.er,hew,q8.er_nil]using hbg
 rintro r H ⟨B,O,Y,T,rfl,rfl⟩ _
 refine⟨bdH B O Y T w [] ⟨[],[]⟩,by simpa using HSub.refl _,?_⟩
 have hHe:=YW B O Y T w [] ⟨[],[]⟩
 have hbr:=zaI B O Y T w hw n ⟨[],[]⟩ (WP.none _ _) hn
 unfold BrC at hbr
 have heo:=wM (jH (qL w) n)
 simp (disch:=omega) [zz]
 refine qD (bdH B O Y T w [] ⟨[],[]⟩) [] (by simp) rfl (by simp[qI]) (by simp) (by
  rw[hHe]
  exact q7.args hbr (by simp[qM,TV.er,AV.er])) ?_
 rintro r H ⟨x,rfl,hx,_,hxi,_,rfl⟩ hnd
 refine⟨bdH B O Y T w [] x,by simpa using HSub.refl _,?_⟩
 have hne:=zjj (by simpa using hnd)
 by_cases hk:(jH (qL w) n).kind=3
 rotate_left
 ·rw[if_neg hk]at hV
  subst hV
  simp (disch:=omega) [zz,qU,hk,Tryz.f14,kJ]
 rw[if_pos hk]at hV
 have hl:jI (qL w) n=none:=by
  rcases vJ (qL w) n with⟨_,h⟩|⟨_,h|h⟩
  ·exact h
  ·omega
  ·omega
 have hch2:∀k,itF (K2 (qL w)) k n∈x.ov.map Prod.fst/\jI (qL w) (itF (K2 (qL w)) k n)=none:=zaW hw hx hxi hl
 have hnx:=fun k=>zk7 hx (hch2 k).1 (hch2 k).2
 obtain⟨f,hf⟩:∃f,f=K2 (qL w):=⟨_,rfl⟩
 rw[<-hf]at hV
 simp only[<-hf,<-pP]at hch2 hnx
 have hlt:∀k,itF f k n<w.acts.length:=fun k=>by
  obtain⟨p,hp,h⟩:=List.mem_map.1 (hch2 k).1
  rw[<-h];exact(hx.fin p hp).1
 have hroom:∀k,(orb f n k).Nodup->k<=w.acts.length:=fun k hd=>by
  have:=List.Nodup.length_le_of_subset (l₂:=List.range w.acts.length) hd fun y hy=>by
   obtain⟨j,_,rfl⟩:=Y7.1 hy
   exact List.mem_range.2 (hlt j)
  rw[yV]at this;simpa using this
 have hwn:=hw.n
 have n1:=hne.bo
 have n2:=hne.by'
 have n3:=hne.bt
 have n4:=hne.oy
 have n5:=hne.ot
 have n6:=hne.yt
 have m1:¬B=O:=fun e=>n1 e.symm
 have m2:¬B=Y:=fun e=>n2 e.symm
 have m3:¬B=T:=fun e=>n3 e.symm
 have m4:¬O=Y:=fun e=>n4 e.symm
 have m5:¬O=T:=fun e=>n5 e.symm
 have m6:¬Y=T:=fun e=>n6 e.symm
 have hHe2:=YW B O Y T w [] x
 have hmk:=fun p=>zgB w.acts (by omega) (fun a ha=>by have:=(hw.a a ha).b.bo;omega) p
 have hea:=ZY w.acts
 simp (disch:=omega) [zz,qU,hk]
 refine AT.loop' (α:=Nat) (fun k=>St.of [(1,.av (.int .i64) (.i .i64 (itF f k n:Nat))),(2,.loc 2 []),(5,.av .ptr (.ptr B BdT [])),(6,.av (.slice 3) (.sl (tkG 37 k) ((orb f n k).map w6)))] [(2,(Q7,W))] (fun j=>if j=37 then k else 0) (bdH B O Y T w [] x))
  (fun k=>k<=w.acts.length/\(orb f n k).Nodup) (fun k=>w.acts.length+1-k) 0 ?_ ⟨by omega,by simp[orb]⟩ ?_
 ·have h0:orb f n 0=[]:=rfl
  have h00:itF f 0 n=n:=rfl
  apply Le.of<;>simp[zA,qF,qJ,tkG,h0,h00,hWE,yV]<;>try omega
 rintro k ⟨hkn,hd⟩ KL hN hE
 have hcn:=ze6 (orb f n k) (itF f k n) (by rw[yV];omega)
 have hol:=yV f n k
 refine zrd zsM ?_
 simp (disch:=omega) [zz]
 refine qG hcn rfl rfl (by simp[qI]) (by simp[qM,TV.er,AV.er,kJ,AV.ers_eq,Function.comp_def,w6]) ?_
 by_cases hin:itF f k n∈orb f n k
 rotate_left
 ·have hd':(orb f n (k+1)).Nodup:=by
   rw[vO,List.nodup_append]
   exact⟨hd,by simp,fun a ha b hb e=>hin (by rw[List.mem_singleton.1 hb]at e;exact e▸ha)⟩
  have hk1:=hroom (k+1) hd'
  simp (disch:=omega) [zz,hin]
  refine KX (by simp) (by simp;omega) (by simp;omega) (by simp) (by simp) ?_
  obtain⟨h5,h6⟩:=hnx k
  have hwf:=zgy (itF f k n) x.wt
  rw[h5]at hwf
  simp only[Option.map_some]at hwf
  have hmk1:=hmk (JI (qL w) (itF f k n)).asks
  rw[h6]at hmk1
  simp (disch:=omega) [zz,hWE,WZ,n3,m3,n5,m5,n6,m6,hwf]
  (repeat with_reducible refine om ?_)
  refine y9 hmk1 rfl rfl (by simp) (by simp[qM,coC,TV.er,AV.er,YV,jC]) ?_
  simp (disch:=omega) [zz]
  (repeat with_reducible refine om ?_)
  have hos:=vO f n k
  have his:=pP f k n
  refine hN _ (k+1) ?_ ⟨hk1,hd'⟩ (by omega)
  rw[his,hos]
  apply Le.of<;>simp[zA,qF,qJ,hWE,WZ,w6]<;>try omega
  all_goals (intro j;by_cases hj:j=37<;>simp[hj])
 ·obtain⟨a,hak,hae⟩:=Y7.1 hin
  have hix:=DR (orb f n k) (itF f k n) (by rw[yV];omega)
  rcases JZ (fun y=>decide (y=itF f k n)) (orb f n k)with⟨_,hall⟩|⟨a,ha,he,hs,_⟩
  ·exact absurd (hall _ hin) (by simp)
  rw[he]at hix
  rw[yV]at ha
  have has:itF f a n=itF f k n:=by
   have:=za3 f n k a (by rw[yV];exact ha)
   rw[this]at hs;simpa using hs
  obtain⟨r,hr⟩:∃r,r=(orb f n k).drop a:=⟨_,rfl⟩
  have hrl:r.length=k-a:=by rw[hr,List.length_drop,yV]
  obtain⟨y,r',hry⟩:∃y r',r=y::r':=by
   cases hrr:r with
   | nil=>rw[hrr]at hrl;simp at hrl;omega
   | cons y r'=>exact⟨y,r',rfl⟩
  have hmn:=zpA y r' (by have:=congrArg List.length hry;simp at this;omega)
  have hmm:=zfp y r'
  have hml:=zjd y r'
  rw[<-hry]at hmn hmm
  obtain⟨mn,hmn2⟩:∃mn,mn=XA y r':=⟨_,rfl⟩
  rw[<-hmn2]at hmn hmm hml
  have hix2:=DR r mn (by omega)
  rcases JZ (fun y=>decide (y=mn)) r with⟨_,hall⟩|⟨c,hc2,he2,hs2,_⟩
  ·exact absurd (hall _ hmm) (by simp)
  rw[he2]at hix2
  have hcm:r[c]=mn:=by simpa using hs2
  have hVr:vC f n=r.drop c++r.take c:=zmR hd ha has hr hc2 fun j hj=>by
   rw[hcm]
   rw[hry]at hj
   rcases List.mem_cons.1 hj with rfl|hj
   ·exact hml.1
   ·exact hml.2 j hj
  have hcat:=zhG [r.drop c,r.take c] (by simp;omega) (by simp;omega) (by simp)
  have hfl:[r.drop c,r.take c].flatten=r.drop c++r.take c:=by simp
  rw[hfl,<-hVr,<-hV]at hcat
  have hki:(a:Int)<=k:=by omega
  have hki0:¬(a:Int)<0:=by omega
  simp (disch:=omega) [zz,hin]
  refine hE _ _ (by simp) ?_
  simp (disch:=omega) [zz]
  refine qG hix rfl rfl (by simp[qI]) (by simp[qM,TV.er,AV.er,kJ,AV.ers_eq,Function.comp_def,w6]) ?_
  have hcut:List.drop a (List.take k (List.map w6 (orb f n k)))=r.map w6:=by
   rw[List.take_of_length_le (by simp[yV]),hr,List.map_drop]
  simp (disch:=omega) [zz,hol,hki,hki0,hcut]
  refine qG hmn rfl rfl (by simp[qI]) (by simp[qM,TV.er,AV.er,kJ,AV.ers_eq,Function.comp_def,w6]) ?_
  simp (disch:=omega) [zz]
  refine qG hix2 rfl rfl (by simp[qI]) (by simp[qM,TV.er,AV.er,kJ,AV.ers_eq,Function.comp_def,w6]) ?_
  have hci:(c:Int)<=r.length:=by omega
  have hci0:¬(c:Int)<0:=by omega
  have hd1:List.drop c (List.take r.length (List.map w6 r))=(r.drop c).map w6:=by
   rw[List.take_of_length_le (by simp),List.map_drop]
  have hd2:List.take c (List.map w6 r)=(r.take c).map w6:=List.map_take.symm
  have hve:=zg8 V
  have hen:∀n,(w6 n).er=w6 n:=fun _=>rfl
  have hvs:kJ V=.sl .no (V.map w6):=rfl
  simp (disch:=omega) [zz,hci,hci0]
  refine y9 hcat rfl rfl (by simp) (by rw[hd1,hd2];simp[qM,coC,TV.er,AV.er,AV.ers,kJ,AV.ers_eq,Function.comp_def,hen]) ?_
  simp (disch:=omega) [zz]
  (repeat with_reducible refine om ?_)
  simp (disch:=omega) [zz,Tryz.f14,hve]
def fxA:Txt:=[111,117,116,47,97]
def fxB:Txt:=[111,117,116,47,98]
def zka:List Txt:=[[114,101,97,100,32,111,117,116,47,98],[119,114,105,116,101,32,111,117,116,47,97]]
def zlt:List Txt:=[[114,101,97,100,32,111,117,116,47,97],[119,114,105,116,101,32,111,117,116,47,98]]
def zc2:Txt:=[114,101,97,100,32,111,117,116,47,98,10,119,114,105,116,101,32,111,117,116,47,97,10]
def zby:Txt:=[114,101,97,100,32,111,117,116,47,97,10,119,114,105,116,101,32,111,117,116,47,98,10]
def fxW:qQ:=⟨[],[⟨[],[],zc2,[],[fxB],[],[fxA]⟩,⟨[],[],zby,[],[fxA],[],[fxB]⟩],[fxA],false⟩
theorem ze8 {t l1 l2 P Q:Txt} (hl:qZ t=[l1,l2]) (ht:¬65536<t.length) (h1:z6 l1=[qW,P]) (h2:z6 l2=[qV,Q]) (g1:ZO [qW,P]=true) (g2:ZO [qV,Q]=true):∃cs,jB t=.ok cs:=by
 have hc:uO t=(0,0):=by
  unfold uO
  rw[hl,if_neg (by simpa using ht)]
  simp[pY,h1,h2,g1,g2]
 rcases cG t with⟨cs,h,_⟩|⟨e,n,_,h,h0⟩
 ·exact⟨cs,h⟩
 ·rw[hc]at h
  exact absurd (congrArg Prod.fst h).symm h0
theorem zq5 {t l1 l2 P Q:Txt} (hl:qZ t=[l1,l2]) (h1:z6 l1=[qW,P]) (hp:xX [qW,P]=false):(US [] [] (qZ t) st0).stop=⟨1,P,[],0⟩/\(US [] [] (qZ t) st0).wrote=[]:=by
 have hs:cK [] [] l1 [qW,P] st0={ (st0:StV)with asked:=[P],stop:=⟨1,P,[],0⟩ }:=by
  simp[cK,QO,st0,do0,jR]
 rw[hl]
 simp only[US,h1,hp,hs]
 simp[st0]
theorem zg3 {t l1 l2 P:Txt} {outs:List Txt} {may:Txt->Bool} {cs:List CmdV} (hcs:jB t=.ok cs) (hl:qZ t=[l1,l2]) (h1:z6 l1=[qW,P]) (hp:xX [qW,P]=false) (hm:may P=true):(U0 [] outs may cs).over=false/\(U0 [] outs may cs).asks=P:=by
 have h0:=zbc hcs (env:=[]) (by simp) (by simp) outs may
 obtain⟨b,hb⟩:∃b,b=U0 [] outs may cs:=⟨_,rfl⟩
 rw[<-hb]at h0 |-
 obtain⟨_,i,hi⟩:=UT hcs
 have hfl:zlz [] cs (qZ t):=⟨⟨i,hi⟩⟩
 obtain⟨f1,f2⟩:=zq5 (Q:=[]) hl h1 hp
 obtain⟨wr,hs⟩:=h0.s
 cases (hs.far hfl).1 with
 | waits h1 h2 h3 h4 h5 h6=>rw[f1]at h3;exact⟨h4,h3⟩
 | read h1 h2=>rw[f1]at h2;simp only at h2;rw[hm]at h2;cases h2
 | ended h1=>rw[f1]at h1;cases h1
 | short h1=>rw[f1]at h1;cases h1
 | failed h1=>rw[f1]at h1;cases h1
 | wrote wr d h1=>rw[f2]at h1;simp at h1
theorem zjy:(DF ⟨[],[],zc2,[],[fxB],[],[fxA]⟩).over=false/\(DF ⟨[],[],zc2,[],[fxB],[],[fxA]⟩).asks=fxB:=by
 obtain⟨cs,hcs⟩:=ze8 (t:=zc2) (l1:=zka[0]) (l2:=zka[1]) (P:=fxB) (Q:=fxA) (by decide) (by decide) (by decide) (by decide) (by decide) (by decide)
 have hc:vZ ⟨[],[],zc2,[],[fxB],[],[fxA]⟩=cs:=by unfold vZ;rw[hcs]
 unfold DF
 rw[hc]
 exact zg3 hcs (by decide:qZ zc2=[zka[0],zka[1]]) (by decide) (by decide) (by simp[Z8,zca,fxA,fxB])
theorem zj9:(DF ⟨[],[],zby,[],[fxA],[],[fxB]⟩).over=false/\(DF ⟨[],[],zby,[],[fxA],[],[fxB]⟩).asks=fxA:=by
 obtain⟨cs,hcs⟩:=ze8 (t:=zby) (l1:=zlt[0]) (l2:=zlt[1]) (P:=fxA) (Q:=fxB) (by decide) (by decide) (by decide) (by decide) (by decide) (by decide)
 have hc:vZ ⟨[],[],zby,[],[fxA],[],[fxB]⟩=cs:=by unfold vZ;rw[hcs]
 unfold DF
 rw[hc]
 exact zg3 hcs (by decide:qZ zby=[zlt[0],zlt[1]]) (by decide) (by decide) (by simp[Z8,zca,fxA,fxB])
theorem zef:JE (qL fxW) 0 1:=by
 refine⟨fxB,⟨(qL fxW).b0 0,.refl _,?_,?_⟩,?_⟩
 ·exact zjy.1
 ·exact zjy.2
 ·show jK fxW.acts fxB=some 1
  decide
theorem ziS:JE (qL fxW) 1 0:=by
 refine⟨fxA,⟨(qL fxW).b0 1,.refl _,?_,?_⟩,?_⟩
 ·exact zj9.1
 ·exact zj9.2
 ·show jK fxW.acts fxA=some 0
  decide
theorem zcX:jI (qL fxW) 0=none:=VM (.tail (.single zef) ziS)
theorem zcK:jI (qL fxW) 1=none:=VM (.tail (.single ziS) zef)
theorem zr6:(jH (qL fxW) 0).kind=3:=by unfold jH;rw[zcX];rfl
theorem znZ:(jH (qL fxW) 1).kind=3:=by unfold jH;rw[zcK];rfl
theorem exw_c:WkC fxW:=by
 refine⟨by simp[fxW],by simp[fxW],?_,by simp[fxW],by decide,by simp[fxW]⟩
 intro a ha
 simp only[fxW,List.mem_cons,List.not_mem_nil,or_false]at ha
 rcases ha with rfl|rfl
 ·exact⟨⟨by decide,by decide,by simp,by decide,by decide,by simp,by decide⟩,by decide,by decide⟩
 ·exact⟨⟨by decide,by decide,by simp,by decide,by decide,by simp,by decide⟩,by decide,by decide⟩
theorem zr7:KT zc2=(0,0):=by
 obtain⟨cs,hcs⟩:=ze8 (t:=zc2) (l1:=zka[0]) (l2:=zka[1]) (P:=fxB) (Q:=fxA) (by decide) (by decide) (by decide) (by decide) (by decide) (by decide)
 unfold KT;rw[hcs]
theorem zry:KT zby=(0,0):=by
 obtain⟨cs,hcs⟩:=ze8 (t:=zby) (l1:=zlt[0]) (l2:=zlt[1]) (P:=fxA) (Q:=fxB) (by decide) (by decide) (by decide) (by decide) (by decide) (by decide)
 unfold KT;rw[hcs]
theorem zs3:jQ fxA=true/\jQ fxB=true/\kN fxA JY=true/\kN fxB JY=true:=by
 decide
theorem zeB:QP fxW=0:=by
 obtain⟨p1,p2,p3,p4⟩:=zs3
 have h1:YE fxW.files=0:=dY (by simp[fxW]) (fun j hj=>by simp[fxW]at hj)
 have h2:(YS fxW.acts).1=0:=by
  have hne:¬fxB=fxA:=by decide
  unfold YS
  rw[if_neg (by simp[fxW])]
  simp[fxW,goC,Y1,zr7,zry,p1,p2,p3,p4,xI,hne]
 unfold QP
 rw[if_neg (by simp[h1]),if_neg (by simp[h2]),if_neg (by simp[fxW]),if_pos (by simp[fxW,p1])]
theorem zma:gA fxW:=exw_c.ok zeB
theorem zrm:kF (qL fxW) (jI (qL fxW)) fxB=none:=by
 unfold kF
 rw[show (qL fxW).who fxB=some 1 from by show jK fxW.acts fxB=some 1;decide]
 simp only[zcK]
theorem zqW:kF (qL fxW) (jI (qL fxW)) fxA=none:=by
 unfold kF
 rw[show (qL fxW).who fxA=some 0 from by show jK fxW.acts fxA=some 0;decide]
 simp only[zcX]
theorem zr5:JI (qL fxW) 0=(qL fxW).b0 0 :=
 (pT (v8 zma (by decide:0<fxW.acts.length)).1 (.refl _) (.inr (by rw[show ((qL fxW).b0 0).asks=fxB from zjy.2];exact zrm))).2
theorem zrB:JI (qL fxW) 1=(qL fxW).b0 1 :=
 (pT (v8 zma (by decide:1<fxW.acts.length)).1 (.refl _) (.inr (by rw[show ((qL fxW).b0 1).asks=fxA from zj9.2];exact zqW))).2
theorem zrv:(JI (qL fxW) 0).asks=fxB:=by rw[zr5];exact zjy.2
theorem zrj:(JI (qL fxW) 1).asks=fxA:=by rw[zrB];exact zj9.2
theorem zns:K2 (qL fxW) 0=1/\K2 (qL fxW) 1=0:=by
 unfold K2
 rw[zrv,zrj]
 exact⟨by show (jK fxW.acts fxB).getD 0=1;decide,by show (jK fxW.acts fxA).getD 0=0;decide⟩
theorem zoq:C5 fxW 1=[0,1]:=by
 unfold C5
 rw[if_pos ⟨zeB,by decide,by decide⟩,show (1:Int).toNat=1 from rfl,if_pos znZ]
 have e:orb (K2 (qL fxW)) 0 2=[0,1]:=by
  show [itF (K2 (qL fxW)) 0 0,itF (K2 (qL fxW)) 1 0]=[0,1]
  simp[itF,zns.1]
 have hr:KG (K2 (qL fxW)) [0,1]:=⟨0,2,by decide,e.symm,by simp[itF,zns.1,zns.2],by decide,by decide⟩
 exact pM (t:=0) hr (by simp[itF])
theorem zmh:wT fxW 0/\wT fxW 1:=by
 have h0:jK fxW.acts fxA=some 0:=by decide
 exact⟨⟨fxA,by decide,0,h0,.inl rfl⟩,⟨fxA,by decide,0,h0,.inr (.single zef)⟩⟩
theorem zlW:kY fxW=[jH (qL fxW) 0,jH (qL fxW) 1]:=by
 have e:fxW.acts.length=2:=rfl
 unfold kY
 rw[e,show List.range 2=[0,1] from rfl]
 simp only[List.map_cons,List.map_nil]
 rw[if_pos zmh.1,if_pos zmh.2]
theorem uZ:PC Tryz.prog 9 [] (.av .bool (.b true)):=by
 have hb:=XQ fxW exw_c
 have hr:=zjT fxW exw_c 1
 rw[zoq]at hr
 have e1:zfa fxW=(k9 fxW,0):=by unfold zfa;rw[if_neg (by simp[zeB])]
 rw[e1]at hb
 have e2:wE (k9 fxW)=.agg [.sl .no [qU (jH (qL fxW) 0),qU (jH (qL fxW) 1)],.sl .no ((k9 fxW).ran.map (.i .i64 ·)),.sl .no [],qH (k9 fxW).files]:=by
  unfold wE k9
  simp only[zlW]
  rfl
 rw[e2]at hb
 have k0:=zr6
 have k1:=znZ
 have hW:j7 fxW=.agg [.sl .no [],.sl .no [.agg [.agg [.s [],.s []],.s zc2,.sl .no [],.sl .no [.s fxB],.sl .no [],.sl .no [.s fxA]],.agg [.agg [.s [],.s []],.s zby,.sl .no [],.sl .no [.s fxA],.sl .no [],.sl .no [.s fxB]]],.sl .no [.s fxA],.b false]:=rfl
 rw[hW]at hb hr
 obtain⟨F,hF⟩:∃F,F=jH (qL fxW) 0:=⟨_,rfl⟩
 obtain⟨G,hG⟩:∃G,G=jH (qL fxW) 1:=⟨_,rfl⟩
 rw[<-hF]at k0
 rw[<-hG]at k1
 rw[<-hF,<-hG]at hb
 obtain⟨X,hX⟩:∃X,X=qH (k9 fxW).files:=⟨_,rfl⟩
 obtain⟨Z,hZ⟩:∃Z,Z=AV.sl .no ((k9 fxW).ran.map (.i .i64 ·)):=⟨_,rfl⟩
 rw[<-hX,<-hZ]at hb
 refine zow Tryz.func9 cf0 fun imm0 w0=>?_
 simp (disch:=omega) [zz]
 refine qG hb rfl rfl (by simp) (by simp[qM,TV.er,AV.er,AV.ers,zc2,zby,fxA,fxB]) ?_
 clear hb
 simp (disch:=omega) [zz]
 refine qG hr rfl rfl (by simp) (by simp[qM,coC,TV.er,AV.er,AV.ers,zc2,zby,fxA,fxB,w6]) ?_
 clear hr
 simp (disch:=omega) [zz,qU,k0,k1,kJ,w6,Tryz.f9]
def zrb (o:yH):Prop:=o.outs.length<=9223372036854775807/\o.reads.length<=9223372036854775807
theorem dI (a b:List jM) (ha:a.length<=9223372036854775807) (hb:b.length<=9223372036854775807) :
  PC Tryz.prog 11 [.av (.slice 57) (qH a),.av (.slice 57) (qH b)] (.av .bool (.b (decide (a=b)))):=by
 refine zow Tryz.func11 cf0 fun imm0 w0=>?_
 by_cases hn:a.length=b.length
 rotate_left
 ·have hn':¬(a.length:Int)=b.length:=by omega
  have hne:¬a=b:=fun e=>hn (by rw[e])
  simp (disch:=omega) [zz,hn',qH,hne,Tryz.f11]
 have hn':(a.length:Int)=b.length:=by omega
 simp (disch:=omega) [zz,hn',qH]
 refine AT.loop' (α:=Nat) (fun k=>St.of [(0,.av (.slice 57) (qH a)),(1,.av (.slice 57) (qH b)),(4,.cst (.bool false)),(5,.av (.int .i64) (.i .i64 k))] [] (fun _=>0) [])
  (fun k=>k<=b.length/\∀i,i<k->∀(h1:i<a.length) (h2:i<b.length),a[i]=b[i]) (fun k=>b.length-k) 0 ?_ ?_ ?_
 ·apply Le.of<;>simp[le9,qH]<;>try omega
 ·exact⟨by omega,fun i h=>by omega⟩
 rintro k ⟨hk,hall⟩ KL hN hE
 refine zrd cf0 ?_
 by_cases hlt:k<b.length
 ·have hlt':(k:Int)<b.length:=by omega
  have hga:=jY qS a k (by omega)
  have hgb:=jY qS b k hlt
  have hlta:(k:Int)<a.length:=by omega
  by_cases hc:a[k]=b[k]
  ·simp (disch:=omega) [zz,hlt',hlta,hga,hgb,qH,X0,hc]
   (repeat with_reducible refine om ?_)
   refine hN _ (k+1) ?_ ⟨by omega,fun i hi h1 h2=>?_⟩ (by omega)
   ·apply Le.of<;>simp[le9,qH]<;>try omega
   ·rcases Nat.lt_or_ge i k with h|h
    ·exact hall i h h1 h2
    ·have:i=k:=by omega
     subst this;exact hc
  ·have hne:¬a=b:=fun e=>hc (by subst e;rfl)
   simp (disch:=omega) [zz,hlt',hlta,hga,hgb,qH,X0,hc]
   (repeat with_reducible refine om ?_)
   refine hE _ _ (by simp) ?_
   simp (disch:=omega) [zz,Tryz.f11,hne]
 ·have hlt':¬(k:Int)<b.length:=by omega
  have hlta:¬(k:Int)<a.length:=by omega
  simp (disch:=omega) [zz,hlt',hlta,qH]
  refine hE _ _ (by simp) ?_
  have:a=b:=x4 hn fun i h1 h2=>hall i (by omega) h1 h2
  simp (disch:=omega) [zz,Tryz.f11,this]
theorem zft (a b:yH) (ha:zrb a) (hb:zrb b) :
  PC Tryz.prog 25 [.av (q9 Tryz.prog 46) (qU a),.av (q9 Tryz.prog 46) (qU b)] (.av .bool (.b (decide (a=b)))):=by
 have hf:=dI a.outs b.outs ha.1 hb.1
 have hbr:=hb.2
 have har:=ha.2
 have e1:=jJ a.outs
 have e2:=jJ b.outs
 have hd:=zoc (a:=a) (b:=b)
 refine zow Tryz.func25 cf0 fun imm0 w0=>?_
 by_cases h1:a.kind=b.kind
 rotate_left
 ·have hne:¬a=b:=fun e=>h1 (by rw[e])
  simp (disch:=omega) [zz,qU,h1,hne,Tryz.f25]
 by_cases h2:a.why=b.why
 rotate_left
 ·have hne:¬a=b:=fun e=>h2 (by rw[e])
  simp (disch:=omega) [zz,qU,h1,h2,hne,Tryz.f25]
 by_cases hn:a.reads.length=b.reads.length
 rotate_left
 ·have hn':¬(a.reads.length:Int)=b.reads.length:=by omega
  have hne:¬a=b:=fun e=>hn (by rw[e])
  simp (disch:=omega) [zz,qU,zO,h1,h2,hn',hne,Tryz.f25]
 have hn':(a.reads.length:Int)=b.reads.length:=by omega
 simp (disch:=omega) [zz,qU,zO,h1,h2,hn']
 refine AT.loop' (α:=Nat) (fun k=>St.of [(2,.loc 2 []),(3,.loc 3 []),(4,.cst (.bool false)),(5,.av (.int .i64) (.i .i64 k))] [(2,(q9 Tryz.prog 46,.agg [.i .i64 b.kind,.i .i64 b.why,qH a.outs,.sl .no (a.reads.map zG)])),(3,(q9 Tryz.prog 46,.agg [.i .i64 b.kind,.i .i64 b.why,qH b.outs,.sl .no (b.reads.map zG)]))] (fun _=>0) [])
  (fun k=>k<=b.reads.length/\∀i,i<k->∀(h1:i<a.reads.length) (h2:i<b.reads.length),a.reads[i]=b.reads[i]) (fun k=>b.reads.length-k) 0 ?_ ?_ ?_
 ·apply Le.of<;>simp[zA,qF,qJ]<;>try omega
 ·exact⟨by omega,fun i h=>by omega⟩
 rintro k ⟨hk,hall⟩ KL hN hE
 refine zrd cf0 ?_
 by_cases hlt:k<b.reads.length
 ·have hlt':(k:Int)<b.reads.length:=by omega
  have hga:=jY zG a.reads k (by omega)
  have hgb:=jY zG b.reads k hlt
  have hlta:(k:Int)<a.reads.length:=by omega
  by_cases hc:a.reads[k]=b.reads[k]
  ·simp (disch:=omega) [zz,hlt',hlta,hga,hgb,xV,hc]
   (repeat with_reducible refine om ?_)
   refine hN _ (k+1) ?_ ⟨by omega,fun i hi h1 h2=>?_⟩ (by omega)
   ·apply Le.of<;>simp[zA,qF,qJ]<;>try omega
   ·rcases Nat.lt_or_ge i k with h|h
    ·exact hall i h h1 h2
    ·have:i=k:=by omega
     subst this;exact hc
  ·have hne:¬a=b:=fun e=>hc (by subst e;rfl)
   simp (disch:=omega) [zz,hlt',hlta,hga,hgb,xV,hc]
   (repeat with_reducible refine om ?_)
   refine hE _ _ (by simp) ?_
   simp (disch:=omega) [zz,Tryz.f25,hne]
 ·have hlt':¬(k:Int)<b.reads.length:=by omega
  have hlta:¬(k:Int)<a.reads.length:=by omega
  simp (disch:=omega) [zz,hlt',hlta]
  refine hE _ _ (by simp) ?_
  have h4:a.reads=b.reads:=x4 hn fun i h1 h2=>hall i (by omega) h1 h2
  simp (disch:=omega) [zz]
  refine qG hf rfl rfl (by simp) (by simp[qM,TV.er,AV.er,e1,e2]) ?_
  by_cases h3:a.outs=b.outs
  ·have he:a=b:=hd.2 ⟨h1,h2,h3,h4⟩
   simp (disch:=omega) [zz,h3,he,Tryz.f25]
  ·have hne:¬a=b:=fun e=>h3 (by rw[e])
   simp (disch:=omega) [zz,h3,hne,Tryz.f25]
structure zlq (r:zfT):Prop where
 o:r.outs.length<=9223372036854775807
 f:r.files.length<=9223372036854775807
 d:∀o∈r.outs,zrb o
theorem zlq.l {r:zfT} (h:zlq r):zk9 r:=⟨h.o,h.f,fun o ho=>by
 obtain⟨h1,h2⟩:=h.d o ho
 exact⟨by omega,by omega⟩⟩
theorem zgd (a b:zfT) (ha:zlq a) (hb:zlq b) :
  PC Tryz.prog 12 [.av XE (wE a),.av XE (wE b)] (.av .bool (.b (decide (a.outs=b.outs)&&decide (a.files=b.files)))):=by
 have hf:=dI a.files b.files ha.f hb.f
 have e1:=jJ a.files
 have e2:=jJ b.files
 have hbo:=hb.o
 refine zow Tryz.func12 cf0 fun imm0 w0=>?_
 by_cases hn:a.outs.length=b.outs.length
 rotate_left
 ·have hn':¬(a.outs.length:Int)=b.outs.length:=by omega
  have hne:¬a.outs=b.outs:=fun e=>hn (by rw[e])
  simp (disch:=omega) [zz,wE,yP,hn',hne,Tryz.f12]
 have hn':(a.outs.length:Int)=b.outs.length:=by omega
 simp (disch:=omega) [zz,wE,yP,hn']
 refine AT.loop' (α:=Nat) (fun k=>St.of [(2,.loc 2 []),(3,.loc 3 []),(4,.cst (.bool false)),(5,.av (.int .i64) (.i .i64 k))] [(2,(XE,wE a)),(3,(XE,wE b))] (fun _=>0) [])
  (fun k=>k<=b.outs.length/\∀i,i<k->∀(h1:i<a.outs.length) (h2:i<b.outs.length),a.outs[i]=b.outs[i]) (fun k=>b.outs.length-k) 0 ?_ ?_ ?_
 ·apply Le.of<;>simp[zA,qF,qJ,wE,yP]<;>try omega
 ·exact⟨by omega,fun i h=>by omega⟩
 rintro k ⟨hk,hall⟩ KL hN hE
 refine zrd cf0 ?_
 by_cases hlt:k<b.outs.length
 ·have hlt':(k:Int)<b.outs.length:=by omega
  have hlt2:k<a.outs.length:=by omega
  have hga:=jY qU a.outs k hlt2
  have hgb:=jY qU b.outs k hlt
  have hlta:(k:Int)<a.outs.length:=by omega
  have ho:=zft a.outs[k] b.outs[k] (ha.d _ (List.getElem_mem hlt2)) (hb.d _ (List.getElem_mem hlt))
  obtain⟨m,hm⟩:∃m,m=a.outs[k]:=⟨_,rfl⟩
  obtain⟨f,hfm⟩:∃f,f=b.outs[k]:=⟨_,rfl⟩
  rw[<-hm]at hga ho
  rw[<-hfm]at hgb ho
  have hme:=wM m
  have hfe:=wM f
  obtain⟨X,hX⟩:∃X,X=qU m:=⟨_,rfl⟩
  obtain⟨Y,hY⟩:∃Y,Y=qU f:=⟨_,rfl⟩
  rw[<-hX]at hga ho hme
  rw[<-hY]at hgb ho hfe
  simp (disch:=omega) [zz,hlt',hlta,hga,hgb,wE,yP]
  (repeat with_reducible refine om ?_)
  refine y9 ho rfl rfl (by simp) (by simp[qM,coC,TV.er,hme,hfe]) ?_
  by_cases hc:m=f
  ·simp (disch:=omega) [zz,hc]
   (repeat with_reducible refine om ?_)
   refine hN _ (k+1) ?_ ⟨by omega,fun i hi h1 h2=>?_⟩ (by omega)
   ·apply Le.of<;>simp[zA,qF,qJ,wE,yP]<;>try omega
   ·rcases Nat.lt_or_ge i k with h|h
    ·exact hall i h h1 h2
    ·have:i=k:=by omega
     subst this;rw[<-hm,<-hfm];exact hc
  ·have hne:¬a.outs=b.outs:=fun e=>hc (by rw[hm,hfm];simp only[e])
   simp (disch:=omega) [zz,hc]
   (repeat with_reducible refine om ?_)
   refine hE _ _ (by simp) ?_
   simp (disch:=omega) [zz,Tryz.f12,hne]
 ·have hlt':¬(k:Int)<b.outs.length:=by omega
  have hlta:¬(k:Int)<a.outs.length:=by omega
  simp (disch:=omega) [zz,hlt',hlta,wE,yP]
  refine hE _ _ (by simp) ?_
  have h4:a.outs=b.outs:=x4 hn fun i h1 h2=>hall i (by omega) h1 h2
  simp (disch:=omega) [zz]
  refine qG hf rfl rfl (by simp) (by simp[qM,TV.er,AV.er,e1,e2]) ?_
  simp (disch:=omega) [zz,h4,Tryz.f12]
end
section
variable [Sel]
def znh (ver:Nat->Nat):Option Nat->Ab.Tok
 | none=>.full
 | some k=>.own k (ver k)
theorem CF {P:Program} {s:St} {d:Nat} {o:Option Nat} {e:TypeId} {xs ys:List AV} {K:St->Prop} (h1:2*(xs.length+ys.length)*P.bytesOf e<=281474976710656) (h2:xs.length+ys.length<=4611686018427387904) (h3:zB P e=true) (h4:k7 P e=true)
  (hk:∀ver',K (({ s with ver:=ver' }:St).put (some d) (.av (.slice e) (.sl (znh ver' (some d)) (xs++ys))))):y4 P s d e (znh s.ver o) xs ys K:=by
 refine⟨h1,h2,h3,h4,?_⟩
 cases o with
 | none=>simpa[znh,upd]using hk (upd s.ver d (s.ver d+1))
 | some k=>exact⟨rfl,by simpa[znh,upd]using hk (upd (upd s.ver k (s.ver k+1)) d (s.ver d+1))⟩
end
section
variable [Sel] [SelPow] [SelMax]
theorem zio {w:qQ} (hw:gA w) {i:Nat} (hi:i<w.acts.length):(jH (qL w) i).reads.length<=500:=by
 obtain⟨⟨b,hb⟩,kn,hk⟩:=v8 hw hi
 obtain⟨kn',hk'⟩:=zmP (PM hw) 600 hk hb
 have hr:=hk'.rl
 have hbx:JI (qL w) i=b:=by unfold JI;rw[hb];rfl
 unfold jH
 cases h:jI (qL w) i with
 | none=>simp only[Option.getD_none,hbx];exact hr
 | some o =>
  rw[vR]at h
  unfold xF at h
  rw[hb]at h
  simp only at h
  by_cases ho:b.over=true
  ·rw[if_pos ho]at h
   cases h
   simp only[Option.getD_some,GP ho];exact hr
  ·rw[if_neg ho]at h
   split at h
   ·cases h
   split at h
   ·cases h
   split at h
   ·cases h;exact hr
   ·cases h
theorem zpD {w:qQ} (hw:gA w) {i:Nat} (hi:i<w.acts.length):zlq ⟨[jH (qL w) i],[],[],[]⟩:=by
 have h1:=(zap hw i).2
 have h2:=zio hw hi
 refine⟨by simp,by simp,fun o ho=>?_⟩
 rw[List.mem_singleton.1 ho]
 exact⟨by omega,by omega⟩
theorem ziQ {w:qQ} {i:Nat} (h:jI (qL w) i=none):(jH (qL w) i).kind=3/\(jH (qL w) i).why=11:=by
 unfold jH;rw[h];exact⟨rfl,rfl⟩
theorem of_at {w:qQ} (h0:QP w=0) {k:Nat} (hk:k<w.acts.length):ofV w k=(jH (qL w) k,0):=by
 unfold ofV
 rw[if_neg (by simp[h0]),if_neg (by omega),Int.toNat_natCast]
theorem zjD {w:qQ} (h0:QP w=0) {k:Nat} (hk:k<w.acts.length):C5 w k=if (jH (qL w) k).kind=3 then vC (K2 (qL w)) k else []:=by
 unfold C5
 rw[if_pos ⟨h0,by omega,by omega⟩,Int.toNat_natCast]
theorem P4 {w:qQ} (hg:ZE w=false):w.acts.length<=8:=by
 unfold ZE at hg
 simp only[Bool.or_eq_false_iff,decide_eq_false_iff_not]at hg
 omega
theorem PX {w:qQ} (h0:QP w=0):zfa w=(k9 w,0):=by unfold zfa;rw[if_neg (by simp[h0])]
theorem WkC.same {w v:qQ} (h:WkC w) (hf:v.files=w.files) (ha:∀a∈v.acts,zkS a) (hn:v.acts.length<=1000000000) (hp:∀p∈v.wants,p.length<=2000000) (hw:v.wants.length<=1000000000):WkC v :=
 ⟨by rw[hf];exact h.f,by rw[hf];exact h.fn,ha,hn,hp,hw⟩
theorem d5 {w:qQ} (hw:gA w) {i:Nat} (hi:i<w.acts.length) :
  PC Tryz.prog 12 [.av XE (.agg [.sl .no [qU (jH (qL w) i)],.sl .no [],.sl .no [],.sl .no []]),.av XE (.agg [.sl .no [qU (jH (qL w) i)],.sl .no [],.sl .no [],.sl .no []])] (.av .bool (.b true)):=by
 have hrm:=zpD hw hi
 have:=zgd _ _ hrm hrm
 simpa[wE,yP,qH]using this
end
end Go.Proofs.YtfkcpballfhddaaGreatDoor
