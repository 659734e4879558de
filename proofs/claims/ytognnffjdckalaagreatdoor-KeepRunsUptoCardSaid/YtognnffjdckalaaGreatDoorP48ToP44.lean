/- A trace of bytes: the program. No condition. -/
import Derived.Test.YtognnffjdckalaaGreatDoorPDToP42
set_option linter.unusedSimpArgs false
set_option linter.unusedVariables false
set_option linter.unusedSectionVars false
set_option maxHeartbeats 64000000
set_option maxRecDepth 100000
namespace Go.Proofs.YtognnffjdckalaaGreatDoor
open Go Go.Ab
open Classical
section
variable [Sel] [SelPow] [SelErr]
def pR:Nat->List (List UInt8)->Bool->List yH × List (List UInt8) × Bool
 | 0,l,b=>([],l,b)
 | n+1,l,b=>((cR l b).1::(pR n (cR l b).2.1 (cR l b).2.2).1,(pR n (cR l b).2.1 (cR l b).2.2).2)
def pM:Nat->List (List UInt8)->Bool->List Made × Bool
 | 0,_,b=>([],b)
 | f+1,l,b=>if l=[]\/b=true then([],b) else
   (⟨(cT l b).1,(cD (cT l b).2.1 (cT l b).2.2).1⟩::(pM f (cD (cT l b).2.1 (cT l b).2.2).2.1 (cD (cT l b).2.1 (cT l b).2.2).2.2).1,(pM f (cD (cT l b).2.1 (cT l b).2.2).2.1 (cD (cT l b).2.1 (cT l b).2.2).2.2).2)
noncomputable def zij (t:qD):qD × Int:=if qY t=0 then(t,0) else(tr0,qY t)
noncomputable def zit (l:List (List UInt8)):qD × Int :=
 let k:=cD l false
 let n:=cN k.2.1 k.2.2
 let r:=pR n.1.toNat n.2.1 n.2.2
 let m:=pM (l.length+1) r.2.1 r.2.2
 if m.2=true then(tr0,3) else zij ⟨k.1,r.1,m.1⟩
noncomputable def yX (x:qD × Int):TV:=.tup [(q8 Tryz.prog 56,q5 x.1),(.int .i64,.i .i64 x.2)]
noncomputable def jJ (b:List UInt8):qD × Int:=if (kO b).2=0 then zit (kO b).1 else(tr0,(kO b).2)
theorem zcO:∀ {f:Nat} {out:List (List UInt8)} {b:List UInt8} {m:Nat},(∀x∈out,x.length<=m)->b.length<=m->(∀x∈(ZJ f out b).1,x.length<=m)/\(ZJ f out b).1.length<=out.length+b.length
 | 0,out,b,m,h,hb=>⟨h,by simp[ZJ]⟩
 | f+1,out,b,m,h,hb=>by
  unfold ZJ
  split
  ·exact⟨h,by simp⟩
  ·cases hh:kS 0 0 b with
   | err e=>exact⟨by simp,by simp⟩
   | ok n rest =>
    have hl:=vQ hh
    simp only
    split
    ·exact⟨by simp,by simp⟩
    ·obtain⟨h1,h2⟩:=zcO (f:=f) (out:=out++[rest.take n]) (b:=rest.drop n) (m:=m) (fun x hx=>by
      rcases List.mem_append.1 hx with hx|hx
      ·exact h x hx
      ·rw[List.mem_singleton]at hx;subst hx;rw[List.length_take];omega) (by rw[List.length_drop];omega)
     refine⟨h1,Nat.le_trans h2 ?_⟩
     rw[List.length_append,List.length_drop];simp;omega
theorem vE (b:List UInt8):(∀x∈(kO b).1,x.length<=b.length)/\(kO b).1.length<=b.length:=by
 have:=zcO (f:=b.length+1) (out:=[]) (b:=b) (m:=b.length) (by simp) (Nat.le_refl _)
 simpa[kO]using this
def tkR (d:Nat):Nat->Tok
 | 0=>.full
 | k+1=>.own d (k+1)
abbrev zlx:Cfg:=⟨fun n=>n==22,fun n=>n==40||n==64||n==1000009||n==1000012||n==2000037||n==2000058||n==2000060⟩
theorem zdN (l:List (List UInt8)) (b:Bool):(cD l b).2.1.length<=l.length/\∀x∈(cD l b).2.1,x∈l:=⟨CH l b,fun x hx=>UW hx⟩
theorem zrr (l:List (List UInt8)) (b:Bool):(cN l b).2.1.length<=l.length/\(∀x∈(cN l b).2.1,x∈l)/\0<=(cN l b).1/\(cN l b).1<=l.length:=by
 have h1:=CH l b
 unfold cN
 split
 ·split
  ·rename_i h;exact⟨h1,fun x hx=>UW hx,h.1,by have:=h.2;simp only;omega⟩
  ·exact⟨h1,fun x hx=>UW hx,by simp,by simp⟩
 ·exact⟨h1,fun x hx=>UW hx,by simp,by simp⟩
theorem zo8 (l:List (List UInt8)) (b:Bool):(cR l b).2.1.length<=l.length/\∀x∈(cR l b).2.1,x∈l:=by
 have h1:=CH l b
 have h2:=zdN (cT l b).2.1 (cT l b).2.2
 unfold cR
 split
 ·exact⟨by simp;omega,fun x hx=>UW (List.mem_of_mem_drop hx)⟩
 ·exact⟨by have:=h2.1;simp only;omega,fun x hx=>UW (h2.2 x hx)⟩
theorem zpg (l:List (List UInt8)) (b:Bool):(cR l b).1.path=(cT l b).1:=by unfold cR;split<;>rfl
theorem ziA:∀(n:Nat) (l:List (List UInt8)) (b:Bool),(∀x∈l,x.length<=1000000000)->∀r∈(pR n l b).1,r.path.length<=1000000000
 | 0,l,b,h,r,hr=>by simp[pR]at hr
 | n+1,l,b,h,r,hr=>by
  simp only[pR]at hr
  rcases List.mem_cons.1 hr with rfl|hr
  ·rw[zpg];exact zih h
  ·exact ziA n _ _ (fun x hx=>h x ((zo8 l b).2 x hx)) r hr
theorem zjq:∀(n:Nat) (l:List (List UInt8)) (b:Bool),(∀x∈l,x.length<=1000000000)->∀r∈(pM n l b).1,r.path.length<=1000000000
 | 0,l,b,h,r,hr=>by simp[pM]at hr
 | n+1,l,b,h,r,hr=>by
  simp only[pM]at hr
  split at hr
  ·cases hr
  ·rcases List.mem_cons.1 hr with rfl|hr
   ·exact zih h
   ·exact zjq n _ _ (fun x hx=>h x (UW ((zdN _ _).2 x hx))) r hr
theorem zph (b:List UInt8) (hb:b.length<=1000000000):PC Tryz.prog 130 [.av .str (.s b)] (yX (jJ b)):=by
 obtain⟨hl1,hl2⟩:=vE b
 obtain⟨X,hX⟩:∃X,jJ b=X:=⟨_,rfl⟩
 rw[hX]
 unfold jJ at hX
 have htx:=zgG b hb
 obtain⟨L,hL⟩:∃L,kO b=L:=⟨_,rfl⟩
 rw[hL]at hX htx hl1 hl2
 obtain⟨l,e⟩:=L
 simp only at hX hl1 hl2
 unfold PC
 refine q6.sub (R:=fun r H'=>r=yX X) ?_ (fun r H' hr _=>⟨[],HSub.of_sub (List.nil_sublist _),hr,rfl⟩)
 refine zov Tryz.func130 zlx fun imm0 w0=>?_
 simp (disch:=omega) [zz]
 refine zcv htx ?_
 by_cases he:e=0
 rotate_left
 ·rw[if_neg he]at hX
  simp (disch:=omega) [zz,zW,he]
  simp (disch:=omega) [zz,Tryz.f130,<-hX,yX,tr0,q5,qE,qF,zY]
 subst he
 rw[if_pos rfl]at hX
 simp (disch:=omega) [zz,zW]
 intro B
 replace hl2:l.length<=1000000000:=by omega
 replace hl1:∀x∈l,x.length<=1000000000:=fun x hx=>Nat.le_trans (hl1 x hx) hb
 unfold zit at hX
 simp only at hX
 have hk:=g8 B l false hl2 hl1
 have hks:=zdN l false
 obtain⟨K,hK⟩:∃K,cD l false=K:=⟨_,rfl⟩
 rw[hK]at hk hks hX
 obtain⟨kd,l1,b1⟩:=K
 simp only at hk hks hX
 have hn:=zh1 B l1 b1 (by omega) (fun x hx=>hl1 x (hks.2 x hx))
 have hns:=zrr l1 b1
 obtain⟨N,hN⟩:∃N,cN l1 b1=N:=⟨_,rfl⟩
 rw[hN]at hn hns hX
 obtain⟨n,l2,b2⟩:=N
 simp only at hn hns hX
 obtain⟨m,rfl⟩:∃m:Nat,n=(m:Int):=⟨n.toNat,by omega⟩
 simp only[Int.toNat_natCast]at hX
 obtain⟨RR,hRR⟩:∃RR,pR m l2 b2=RR:=⟨_,rfl⟩
 rw[hRR]at hX
 have hm2:∀x∈l2,x.length<=1000000000:=fun x hx=>hl1 x (hks.2 x (hns.2.1 x hx))
 refine YA (R:=fun r H'=>r=.av (q8 Tryz.prog 53) (qK kd)/\H'=j7 B l1 b1) (j7 B l false) [] (by simp[j7]) rfl (by simp) (by simp) ?_ ?_
 ·simpa[TV.er,AV.er]using hk
 rintro r H' ⟨rfl,rfl⟩ _
 refine⟨_,HSub.refl _,?_⟩
 simp (disch:=omega) [zz,j7]
 refine YA (R:=fun r H'=>r=.av (.int .i64) (.i .i64 m)/\H'=j7 B l2 b2) (j7 B l1 b1) [] (by simp[j7]) rfl (by simp) (by simp) ?_ ?_
 ·simpa[TV.er,AV.er]using hn
 rintro r H' ⟨rfl,rfl⟩ _
 refine⟨_,HSub.refl _,?_⟩
 simp (disch:=omega) [zz,j7]
 refine AT.loop' (α:=Nat × List yH × List (List UInt8) × Bool) (fun x=>St.of [(2,.loc 2 []),(6,.av .ptr (.ptr B zey [])),(7,.av .func (.bm 171 [.ptr B zey []])),(9,.loc 9 []),(31,.av (.int .i64) (.i .i64 m)),(32,.av (.int .i64) (.i .i64 x.1))] [(2,(q8 Tryz.prog 56,.agg [qK kZ,.sl .full [],.sl .full []])),(9,(q8 Tryz.prog 56,.agg [qK kd,.sl (tkR 39 x.1) (x.2.1.map qV),.sl .full []]))] (fun j=>if j=39 then x.1 else 0) (j7 B x.2.2.1 x.2.2.2))
  (fun x=>x.1<=m/\x.2.1.length=x.1/\(x.2.1++(pR (m-x.1) x.2.2.1 x.2.2.2).1,(pR (m-x.1) x.2.2.1 x.2.2.2).2)=RR/\x.2.2.1.length<=l2.length/\∀y∈x.2.2.1,y∈l2) (fun x=>m-x.1) (0,[],l2,b2) ?_ ?_ ?_
 ·apply Le.of<;>simp[le9,zY,tkR,j7]<;>try omega
 ·exact⟨by simp,rfl,by simp[hRR],by simp,fun y hy=>hy⟩
 rintro⟨i,acc,lc,bc⟩ ⟨hi,hacc,hpr,hlc,hmc⟩ KL hNx hE
 simp only at hi hacc hpr hlc hmc hNx
 refine zrd zlx ?_
 by_cases hlt:i<m
 ·have hrd:=zno B lc bc (by omega) (fun x hx=>hm2 x (hmc x hx))
  have hrs:=zo8 lc bc
  have hmi:m-i=(m-(i+1))+1:=by omega
  rw[hmi]at hpr
  unfold pR at hpr
  obtain⟨C,hC⟩:∃C,cR lc bc=C:=⟨_,rfl⟩
  rw[hC]at hrd hrs hpr
  obtain⟨rd,l3,b3⟩:=C
  simp only at hrd hrs hpr
  cases i with
  | zero =>
   have hlt':(0:Int)<m:=by omega
   obtain rfl:=List.length_eq_zero_iff.1 hacc
   simp (disch:=omega) [zz,hlt',hlt,tkR]
   refine j6.of [0,1,2,3,4,5,6,7] [0,1] (by kernel_rfl) ?_
   simp (disch:=omega) [zz]
   (repeat with_reducible refine om ?_)
   refine zF (R:=fun r H'=>r=.av (q8 Tryz.prog 82) (qV rd)/\H'=j7 B l3 b3) rfl (by simp[qH]) (by simp) ?_ ?_
   ·simpa[TV.er,AV.er]using hrd
   rintro r H' ⟨rfl,rfl⟩
   simp (disch:=omega) [zz,qQ,j7]
   (repeat with_reducible refine om ?_)
   refine hNx _ (1,[rd],l3,b3) ?_ ⟨by simp only;omega,rfl,by simpa using hpr,by simp only;omega,fun y hy=>hmc y (hrs.2 y hy)⟩ (by simp only;omega)
   apply Le.of<;>simp[le9,tkR,j7]<;>try omega
  | succ i =>
   have hlt':(i:Int)+1<m:=by omega
   have hge:(0:Int)<=(i:Int)+1:=by omega
   simp (disch:=omega) [zz,hlt',hlt,tkR]
   refine j6.of [0,1,2,3,4,5,6,7] [0,1] (by kernel_rfl) ?_
   simp (disch:=omega) [zz]
   (repeat with_reducible refine om ?_)
   refine zF (R:=fun r H'=>r=.av (q8 Tryz.prog 82) (qV rd)/\H'=j7 B l3 b3) rfl (by simp[qH]) (by simp) ?_ ?_
   ·simpa[TV.er,AV.er]using hrd
   rintro r H' ⟨rfl,rfl⟩
   simp (disch:=omega) [zz,qQ,j7,hacc]
   (repeat with_reducible refine om ?_)
   refine hNx _ (i+2,acc++[rd],l3,b3) ?_ ⟨by simp only;omega,by simp;omega,by simpa using hpr,by simp only;omega,fun y hy=>hmc y (hrs.2 y hy)⟩ (by simp only;omega)
   apply Le.of<;>simp[le9,tkR,j7]<;>try omega
   all_goals (intro j;by_cases hj:j=39<;>simp[hj])
 have hin:i=m:=by omega
 have hlt':¬(i:Int)<m:=by omega
 rw[hin,Nat.sub_self]at hpr
 simp only[pR,List.append_nil]at hpr
 simp (disch:=omega) [zz,hlt']
 refine hE _ _ (by simp) ?_
 clear hNx hE
 subst hpr
 simp only at hX
 obtain⟨MM,hMM⟩:∃MM,pM (l.length+1) lc bc=MM:=⟨_,rfl⟩
 rw[hMM]at hX
 simp (disch:=omega) [zz]
 refine AT.loop' (α:=Nat × List Made × List (List UInt8) × Bool × Nat) (fun x=>St.of [(2,.loc 2 []),(6,.av .ptr (.ptr B zey [])),(7,.av .func (.bm 171 [.ptr B zey []])),(9,.loc 9 [])] [(2,(q8 Tryz.prog 56,.agg [qK kZ,.sl .full [],.sl .full []])),(9,(q8 Tryz.prog 56,.agg [qK kd,.sl (tkR 39 i) (acc.map qV),.sl (tkR 63 x.1) (x.2.1.map qS)]))] (fun j=>if j=63 then x.1 else if j=39 then i else 0) (j7 B x.2.2.1 x.2.2.2.1))
  (fun x=>x.2.1.length=x.1/\(x.2.1++(pM x.2.2.2.2 x.2.2.1 x.2.2.2.1).1,(pM x.2.2.2.2 x.2.2.1 x.2.2.2.1).2)=MM/\x.2.2.1.length<x.2.2.2.2/\x.1+x.2.2.1.length<=l.length/\∀y∈x.2.2.1,y∈l2) (fun x=>x.2.2.2.2) (0,[],lc,bc,l.length+1) ?_ ?_ ?_
 ·apply Le.of<;>simp[le9,zY,tkR,j7]<;>try omega
  all_goals (intro j;by_cases hj:j=63<;>simp[hj])
 ·exact⟨rfl,by simp[hMM],by simp only;omega,by simp only;omega,hmc⟩
 rintro⟨i2,acc2,lw,bw,f⟩ ⟨hacc2,hpm,hlw,hi2,hmw⟩ KL2 hNx hE
 simp only at hacc2 hpm hlw hi2 hmw hNx
 refine zrd zlx ?_
 cases f with
 | zero=>omega
 | succ f =>
 unfold pM at hpm
 by_cases hst:lw=[]\/bw=true
 ·rw[if_pos hst]at hpm
  simp only[List.append_nil]at hpm
  subst hpm
  cases bw with
  | true =>
   rw[if_pos rfl]at hX
   cases lw with
   | nil =>
    simp (disch:=omega) [zz,j7,qG]
    refine hE _ _ (by simp) ?_
    simp (disch:=omega) [zz,j7]
    simp (disch:=omega) [zz,Tryz.f130,<-hX,yX,tr0,q5,qE,qF,zY]
   | cons s r =>
    have hpos:(0:Int)<(r.length:Int)+1:=by omega
    simp (disch:=omega) [zz,j7,qG,hpos]
    refine hE _ _ (by simp) ?_
    simp (disch:=omega) [zz,j7]
    simp (disch:=omega) [zz,Tryz.f130,<-hX,yX,tr0,q5,qE,qF,zY]
  | false =>
   rw[if_neg (by simp)]at hX
   have hlw0:lw=[]:=by rcases hst with h|h;exact h;cases h
   subst hlw0
   have htp:TrP ⟨kd,acc,acc2⟩:=by
    have p1:=ziA m l2 b2 hm2
    rw[hRR]at p1
    have p2:=zjq (l.length+1) lc bc (fun x hx=>hm2 x (hmc x hx))
    rw[hMM]at p2
    exact⟨⟨by simp only;omega,fun r hr=>Nat.le_trans (p1 r hr) (by decide)⟩,by simp only;omega,fun r hr=>Nat.le_trans (p2 r hr) (by decide)⟩
   simp (disch:=omega) [zz,j7,qG]
   refine hE _ _ (by simp) ?_
   simp (disch:=omega) [zz,j7]
   refine YE (UV _ htp) rfl rfl (by simp) (by simp[q9,TV.er,q5,AV.er,AV.ers,AV.ers_eq,qE,qF,List.map_map,Function.comp_def]) ?_
   unfold zij at hX
   by_cases hc:qY ⟨kd,acc,acc2⟩=0
   ·rw[if_pos hc]at hX
    simp (disch:=omega) [zz,hc]
    simp (disch:=omega) [zz,Tryz.f130,<-hX,yX,q5,qE,qF,AV.ers_eq,Function.comp_def]
   ·rw[if_neg hc]at hX
    simp (disch:=omega) [zz,hc]
    simp (disch:=omega) [zz,Tryz.f130,<-hX,yX,tr0,q5,qE,qF,zY]
 rw[if_neg hst]at hpm
 have hbf:bw=false:=by cases bw with|false=>rfl|true=>exact absurd (.inr rfl) hst
 subst hbf
 cases lw with
 | nil=>exact absurd (.inl rfl) hst
 | cons s r =>
 simp only[cT]at hpm
 have hpos:(0:Int)<(r.length:Int)+1:=by omega
 have hrm:∀x∈r,x.length<=1000000000:=fun x hx=>hm2 x (hmw x (by simp[hx]))
 have hlr:r.length<f:=by simp at hlw;omega
 have hi2r:i2+(r.length+1)<=l.length:=by simpa using hi2
 have htxt:=UN B (s::r) false (by simp;omega)
 simp only[cT]at htxt
 have hdg:=g8 B r false (by omega) hrm
 have hds:=zdN r false
 obtain⟨D,hD⟩:∃D,cD r false=D:=⟨_,rfl⟩
 rw[hD]at hdg hds hpm
 obtain⟨d1,d2,d3⟩:=D
 simp only at hdg hds hpm
 cases i2 with
 | zero =>
  obtain rfl:=List.length_eq_zero_iff.1 hacc2
  simp (disch:=omega) [zz,j7,qG,hpos,tkR]
  refine j6.of [0,1,2,4,3,5,6,7,8,9,10] [0,1,4] (by kernel_rfl) ?_
  simp (disch:=omega) [zz]
  (repeat with_reducible refine om ?_)
  refine zF (R:=fun r' H'=>r'=.av .str (.s s)/\H'=j7 B r false) rfl (by simp[qH]) (by simp) ?_ ?_
  ·simpa[TV.er,AV.er,j7,qG,AV.ers_eq,AV.erk,AV.erks,AV.erks_eq,Function.comp_def,q7.er_cons,q7.er_nil,HObj.er_var,Tok.k]using htxt
  rintro r' H' ⟨rfl,rfl⟩
  simp (disch:=omega) [zz]
  (repeat with_reducible refine om ?_)
  refine YA (R:=fun r' H'=>r'=.av (q8 Tryz.prog 53) (qK d1)/\H'=j7 B d2 d3) (j7 B r false) [] (by simp) rfl (by simp) (by simp) ?_ ?_
  ·simpa[TV.er,AV.er]using hdg
  rintro r' H' ⟨rfl,rfl⟩ _
  refine⟨_,HSub.refl _,?_⟩
  simp (disch:=omega) [zz,qQ,j7]
  (repeat with_reducible refine om ?_)
  refine hNx _ (1,[⟨s,d1⟩],d2,d3,f) ?_ ⟨rfl,by simpa using hpm,by simp only;omega,by simp only;omega,fun y hy=>hmw y (by simp[hds.2 y hy])⟩ (by simp only;omega)
  apply Le.of<;>simp[le9,tkR,j7]<;>try omega
  all_goals (intro j;by_cases hj:j=63<;>simp[hj])
 | succ i2 =>
  simp (disch:=omega) [zz,j7,qG,hpos,tkR]
  refine j6.of [0,1,2,4,3,5,6,7,8,9,10] [0,1,4] (by kernel_rfl) ?_
  simp (disch:=omega) [zz]
  (repeat with_reducible refine om ?_)
  refine zF (R:=fun r' H'=>r'=.av .str (.s s)/\H'=j7 B r false) rfl (by simp[qH]) (by simp) ?_ ?_
  ·simpa[TV.er,AV.er,j7,qG,AV.ers_eq,AV.erk,AV.erks,AV.erks_eq,Function.comp_def,q7.er_cons,q7.er_nil,HObj.er_var,Tok.k]using htxt
  rintro r' H' ⟨rfl,rfl⟩
  simp (disch:=omega) [zz]
  (repeat with_reducible refine om ?_)
  refine YA (R:=fun r' H'=>r'=.av (q8 Tryz.prog 53) (qK d1)/\H'=j7 B d2 d3) (j7 B r false) [] (by simp) rfl (by simp) (by simp) ?_ ?_
  ·simpa[TV.er,AV.er]using hdg
  rintro r' H' ⟨rfl,rfl⟩ _
  refine⟨_,HSub.refl _,?_⟩
  simp (disch:=omega) [zz,qQ,j7,hacc2]
  (repeat with_reducible refine om ?_)
  refine hNx _ (i2+2,acc2++[⟨s,d1⟩],d2,d3,f) ?_ ⟨by simp;omega,by simpa using hpm,by simp only;omega,by simp only;omega,fun y hy=>hmw y (by simp[hds.2 y hy])⟩ (by simp only;omega)
  apply Le.of<;>simp[le9,tkR,j7]<;>try omega
  all_goals (intro j;by_cases hj:j=63<;>simp[hj])
def rG:Nat->List (List UInt8)->Option (List yH × List Made)
 | n+1,p::s::r=>if s=[] then(rG n r).map fun x=>(⟨p,false,kZ⟩::x.1,x.2)
   else if s.length=32 then(rG n r).map fun x=>(⟨p,true,s⟩::x.1,x.2) else none
 | 0,p::s::r=>if s.length=32 then(rG 0 r).map fun x=>(x.1,⟨p,s⟩::x.2) else none
 | _,_=>some ([],[])
noncomputable def uI (l:List (List UInt8)):qD × Int :=
 match l with
 | k::c::r=>if r.length % 2=1\/k.length≠32 then(tr0,3) else match YF c with
  | none=>(tr0,3)
  | some n=>if n<0\/(r.length:Int)<2*n then(tr0,3) else match rG n.toNat r with
   | none=>(tr0,3)
   | some x=>zij ⟨k,x.1,x.2⟩
 | _=>(tr0,3)
theorem zr5 (l:List (List UInt8)):(cR l true).2.2=true:=by
 unfold cR
 have h:∀l,(cT l true).2.2=true:=fun l=>by cases l<;>rfl
 split
 ·exact h l
 ·simp only[cD,h,Bool.true_or]
theorem zhz:∀(n:Nat) (l:List (List UInt8)),(pR n l true).2.2=true
 | 0,l=>rfl
 | n+1,l=>by simp only[pR,zr5];exact zhz n _
theorem zbv (f:Nat) (l:List (List UInt8)):(pM f l true).2=true:=by cases f<;>simp[pM]
theorem zjt:∀(m:Nat) (f:Nat) (l:List (List UInt8)),l.length<=m->l.length<f->
  (l.length % 2=1->(pM f l false).2=true)/\(l.length % 2=0->match rG 0 l with
   | some x=>x.1=[]/\pM f l false=(x.2,false)
   | none=>(pM f l false).2=true)
 | m,f,[],_,hf=>by
  obtain⟨f,rfl⟩:∃g,f=g+1:=⟨f-1,by omega⟩
  exact⟨by simp,fun _=>by simp[rG,pM]⟩
 | m,f,[p],_,hf=>by
  obtain⟨f,rfl⟩:∃g,f=g+1:=⟨f-1,by simp at hf;omega⟩
  refine⟨fun _=>?_,by simp⟩
  simp only[pM,cT,cD,Bool.true_or]
  simp only[List.cons_ne_nil,Bool.false_eq_true,or_self,if_false]
  exact zbv f []
 | 0,f,p::s::r,hm,hf=>by simp at hm
 | m+1,f,p::s::r,hm,hf=>by
  obtain⟨f,rfl⟩:∃g,f=g+1:=⟨f-1,by simp at hf;omega⟩
  have ih:=zjt m f r (by simp at hm;omega) (by simp at hf;omega)
  have e:pM (f+1) (p::s::r) false=(⟨p,pX s⟩::(pM f r (decide (s.length≠32))).1,(pM f r (decide (s.length≠32))).2):=by
   rw[pM,if_neg (by simp)]
   rfl
  rw[e]
  by_cases h32:s.length=32
  ·have hd:decide (s.length≠32)=false:=by simp[h32]
   rw[hd]
   refine⟨fun ho=>ih.1 (by simp at ho;omega),fun he=>?_⟩
   have h2:=ih.2 (by simp at he;omega)
   unfold rG
   rw[if_pos h32]
   cases hg:rG 0 r with
   | none=>rw[hg]at h2;simpa using h2
   | some x =>
    rw[hg]at h2
    simp only[Option.map_some]
    refine⟨h2.1,?_⟩
    rw[h2.2,cB h32]
  ·have hd:decide (s.length≠32)=true:=by simp[h32]
   rw[hd]
   refine⟨fun _=>zbv f r,fun he=>?_⟩
   unfold rG
   rw[if_neg h32]
   exact zbv f r
theorem ziy:∀(n:Nat) (l:List (List UInt8)) (f:Nat),2*n<=l.length->l.length<f->
  (l.length % 2=1->(pM f (pR n l false).2.1 (pR n l false).2.2).2=true)/\(l.length % 2=0->match rG n l with
   | some x=>(pR n l false).1=x.1/\pM f (pR n l false).2.1 (pR n l false).2.2=(x.2,false)
   | none=>(pM f (pR n l false).2.1 (pR n l false).2.2).2=true)
 | 0,l,f,_,hf=>by
  have:=zjt l.length f l (Nat.le_refl _) hf
  refine⟨this.1,fun he=>?_⟩
  have h2:=this.2 he
  simp only[pR]
  cases hg:rG 0 l with
  | none=>rw[hg]at h2;exact h2
  | some x=>rw[hg]at h2;exact⟨h2.1.symm,h2.2⟩
 | n+1,[],f,h,_=>by simp at h
 | n+1,[p],f,h,_=>by simp at h;omega
 | n+1,p::s::r,f,h,hf=>by
  have ih:=ziy n r f (by simp at h;omega) (by simp at hf;omega)
  unfold rG
  by_cases hs:s=[]
  ·subst hs
   have hc:cR (p::[]::r) false=(⟨p,false,kZ⟩,r,false):=by simp[cR,cT]
   simp only[pR,hc,if_true]
   refine⟨fun ho=>ih.1 (by simp at ho;omega),fun he=>?_⟩
   have h2:=ih.2 (by simp at he;omega)
   cases hg:rG n r with
   | none=>rw[hg]at h2;exact h2
   | some x=>rw[hg]at h2;simp only[Option.map_some];exact⟨by rw[h2.1],h2.2⟩
  ·have hc:cR (p::s::r) false=(⟨p,true,pX s⟩,r,decide (s.length≠32)):=by
    unfold cR
    rw[if_neg (by simpa[cT]using hs)]
    rfl
   simp only[pR,hc,if_neg hs]
   by_cases h32:s.length=32
   ·have hd:decide (s.length≠32)=false:=by simp[h32]
    rw[hd,if_pos h32]
    refine⟨fun ho=>ih.1 (by simp at ho;omega),fun he=>?_⟩
    have h2:=ih.2 (by simp at he;omega)
    cases hg:rG n r with
    | none=>rw[hg]at h2;exact h2
    | some x=>rw[hg]at h2;simp only[Option.map_some];exact⟨by rw[h2.1,cB h32],h2.2⟩
   ·have hd:decide (s.length≠32)=true:=by simp[h32]
    rw[hd,if_neg h32]
    have hb:(pM f (pR n r true).2.1 (pR n r true).2.2).2=true:=by rw[zhz];exact zbv _ _
    exact⟨fun _=>hb,fun _=>hb⟩
theorem cW (l:List (List UInt8)):zit l=uI l:=by
 have bad:∀(n:Nat) (l2:List (List UInt8)) (f:Nat),(pM f (pR n l2 true).2.1 (pR n l2 true).2.2).2=true:=fun n l2 f=>by rw[zhz];exact zbv _ _
 unfold zit
 simp only
 cases l with
 | nil =>
  have h1:cD [] false=(pX [],[],true):=by simp[cD,cT]
  have h2:(cN [] true).2.2=true:=by unfold cN;split<;>(try split)<;>rfl
  rw[h1,h2,if_pos (bad _ _ _)];rfl
 | cons k l =>
  cases l with
  | nil =>
   have h2:∀b,(cN [] b).2.2=true:=fun b=>by unfold cN;split<;>(try split)<;>rfl
   have h1:(cD [k] false).2.1=[]:=rfl
   rw[h1,h2,if_pos (bad _ _ _)];rfl
  | cons c r =>
   have h1:cD (k::c::r) false=(pX k,c::r,decide (k.length≠32)):=rfl
   rw[h1]
   simp only[uI]
   by_cases hk:k.length=32
   rotate_left
   ·have hd:decide (k.length≠32)=true:=by simp[hk]
    have h2:(cN (c::r) true).2.2=true:=by unfold cN;split<;>(try split)<;>rfl
    rw[hd,h2,if_pos (bad _ _ _),if_pos (.inr hk)]
   have hd:decide (k.length≠32)=false:=by simp[hk]
   rw[hd,cB hk]
   cases hi:YF c with
   | none =>
    have h2:cN (c::r) false=(0,r,true):=by simp only[cN,cT,hi]
    rw[h2,if_pos (bad _ _ _)]
    split<;>rfl
   | some n =>
    by_cases hn:0<=n/\n<=((r.length / 2:Nat):Int)
    rotate_left
    ·have h2:cN (c::r) false=(0,r,true):=by
      simp only[cN,cT,hi]
      exact if_neg hn
     rw[h2,if_pos (bad _ _ _)]
     split
     ·rfl
     ·simp only;rw[if_pos (by omega)]
    have h2:cN (c::r) false=(n,r,false):=by
     simp only[cN,cT,hi]
     exact if_pos hn
    have hsp:=ziy n.toNat r ((k::c::r).length+1) (by omega) (by simp;omega)
    rw[h2]
    simp only
    by_cases ho:r.length % 2=1
    ·rw[if_pos (hsp.1 ho),if_pos (.inl ho)]
    ·have h3:=hsp.2 (by omega)
     have c1:¬(r.length % 2=1\/k.length≠32):=by omega
     have c2:¬(n<0\/(r.length:Int)<2*n):=by omega
     rw[if_neg c1,if_neg c2]
     cases hg:rG n.toNat r with
     | none=>rw[hg]at h3;simp only at h3;rw[if_pos h3]
     | some x =>
      rw[hg]at h3
      simp only at h3 |-
      rw[h3.2,if_neg (by simp),h3.1]
end
section
variable [Sel] [SelPow]
theorem zdf (b:List UInt8) (hb:b.length<=1000000000):PC Tryz.prog 79 [.av .str (.s b)] (zW (kO b)):=by
 obtain⟨R,hR⟩:∃R,kO b=R:=⟨_,rfl⟩
 rw[hR]
 unfold kO at hR
 refine zow Tryz.func79 cf0 fun imm0 w0=>?_
 simp (disch:=omega) [zz]
 refine AT.loop' (α:=Nat × Nat × List (List UInt8) × Nat) (fun x=>St.of [(0,.av .str (.s b)),(4,.av (.slice 9) (.sl (if x.1=0 then .full else .own 73 x.1) (qG x.2.2.1))),(5,.av (.int .i64) (.i .i64 x.2.2.2))] [] (fun j=>if j=73 then x.1 else 0) [])
  (fun x=>ZJ x.2.1 x.2.2.1 (b.drop x.2.2.2)=R/\x.2.2.2<=b.length/\b.length-x.2.2.2<x.2.1/\x.2.2.1.length<=x.2.2.2/\(x.1=0->x.2.2.1=[])) (fun x=>x.2.1) (0,b.length+1,[],0) ?_ ?_ ?_
 ·apply Le.of<;>simp[le9,qG]<;>try omega
 ·exact⟨by simpa using hR,by simp,by simp,by simp,fun _=>rfl⟩
 rintro⟨tk,f,out,p⟩ ⟨hr,hp,hf,hlen,h0⟩ KL hN hE
 simp only at hr hp hf hlen h0 hN
 refine zrd cf0 ?_
 cases f with
 | zero=>omega
 | succ f =>
 unfold ZJ at hr
 by_cases hlt:p<b.length
 rotate_left
 ·have hlt':¬(p:Int)<b.length:=by omega
  rw[if_pos (List.drop_eq_nil_of_le (by omega))]at hr
  simp (disch:=omega) [zz,hlt']
  refine hE _ _ (by simp) ?_
  simp (disch:=omega) [zz,Tryz.f79,<-hr,zW]
 have hlt':(p:Int)<b.length:=by omega
 rw[if_neg (by intro e;have:=congrArg List.length e;simp at this;omega)]at hr
 obtain⟨Hd,hHd⟩:∃Hd,kS 0 0 (b.drop p)=Hd:=⟨_,rfl⟩
 rw[hHd]at hr
 simp (disch:=omega) [zz,hlt']
 refine AT.loop' (α:=Nat × Nat) (fun x=>St.of [(0,.av .str (.s b)),(4,.av (.slice 9) (.sl (if tk=0 then .full else .own 73 tk) (qG out))),(5,.av (.int .i64) (.i .i64 (p+x.1:Nat))),(6,.av (.int .i64) (.i .i64 x.2)),(7,.av (.int .i64) (.i .i64 x.1))] [] (fun j=>if j=73 then tk else 0) [])
  (fun x=>kS x.1 x.2 (b.drop (p+x.1))=Hd/\p+x.1<=b.length/\x.1<=9/\x.2<10 ^ x.1) (fun x=>b.length-x.1) (0,0) ?_ ?_ ?_
 ·apply Le.of<;>simp[le9]<;>try omega
 ·exact⟨hHd,by simp;omega,by simp,by simp⟩
 rintro⟨k,n⟩ ⟨hh,hk,h9,hn⟩ KL2 hN2 hE2
 simp only at hh hk h9 hn hN2
 have hn9:n<1000000000:=Nat.lt_of_lt_of_le hn (Nat.pow_le_pow_right (by decide) h9)
 obtain⟨q,hq⟩:∃q,q=p+k:=⟨_,rfl⟩
 rw[<-hq]at hh hk
 have hpk:(p:Int)+k=q:=by omega
 refine zrd cf0 ?_
 by_cases hqe:q=b.length
 ·have hq':¬(q:Int)<b.length:=by omega
  have hq2:(q:Int)=b.length:=by omega
  rw[List.drop_eq_nil_of_le (by omega)]at hh
  simp only[kS]at hh
  rw[<-hh]at hr
  simp only at hr
  simp (disch:=omega) [zz,hpk,hq',hqe]
  refine hE2 _ _ (by simp) ?_
  simp (disch:=omega) [zz,hpk,hqe]
  refine hE _ _ (by simp) ?_
  simp (disch:=omega) [zz,Tryz.f79,<-hr,zW,qG]
 have hql:q<b.length:=by omega
 have hq':(q:Int)<b.length:=by omega
 have hd:b.drop q=b[q]::b.drop (q+1):=(List.getElem_cons_drop (h:=hql)).symm
 obtain⟨c,hc⟩:∃c,b[q]=c:=⟨_,rfl⟩
 rw[hc]at hd
 have hc256:c.toNat<256:=c.toNat_lt
 rw[hd]at hh
 unfold kS at hh
 simp (disch:=omega) [zz,hpk,hq',hql,hc]
 refine zcv (UB c) ?_
 by_cases hdg:QJ c=true
 ·have hd48:48<=c.toNat:=by simp only[QJ,Bool.and_eq_true,decide_eq_true_eq]at hdg;exact hdg.1
  have h58:¬c=58:=by rintro rfl;simp[QJ]at hdg
  rw[if_neg (by simp[h58])]at hh
  rcases Nat.eq_zero_or_pos k with rfl|hk0
  ·have hn00:n=0:=by simpa using hn
   subst hn00
   rw[if_neg (by simp[hdg])]at hh
   simp (disch:=omega) [zz,hdg,hql,hc]
   refine hN2 _ (1,c.toNat-48) ?_ ⟨by simp only;rw[show p+1=q+1 by omega];simpa using hh,by simp only;omega,by simp,by simp only[Nat.pow_one];have:c.toNat<=57:=by { simp only[QJ,Bool.and_eq_true,decide_eq_true_eq]at hdg;exact hdg.2 };omega⟩ (by simp only;omega)
   apply Le.of<;>simp[le9]<;>try omega
  have hk0':(0:Int)<k:=by omega
  by_cases hn0:n=0
  ·subst hn0
   rw[if_pos (.inr (.inr ⟨hk0,rfl⟩))]at hh
   rw[<-hh]at hr
   simp only at hr
   simp (disch:=omega) [zz,hdg,hk0,hk0']
   refine hE2 _ _ (by simp) ?_
   simp (disch:=omega) [zz]
   refine hE _ _ (by simp) ?_
   simp (disch:=omega) [zz,Tryz.f79,<-hr,zW,qG]
  have hn0':¬(n:Int)=0:=by omega
  by_cases hk9:k=9
  ·rw[if_pos (.inr (.inl hk9))]at hh
   subst hk9
   rw[<-hh]at hr
   simp only at hr
   simp (disch:=omega) [zz,hdg,hn0,hn0']
   refine hE2 _ _ (by simp) ?_
   simp (disch:=omega) [zz]
   refine hE _ _ (by simp) ?_
   simp (disch:=omega) [zz,Tryz.f79,<-hr,zW,qG]
  have hk9':¬(k:Int)=9:=by omega
  rw[if_neg (by simp[hdg,hk9,hn0])]at hh
  simp (disch:=omega) [zz,hdg,hk0,hk0',hn0,hn0',hk9,hk9',hql,hc]
  refine hN2 _ (k+1,10*n+(c.toNat-48)) ?_ ⟨by simp only;rw[show p+(k+1)=q+1 by omega];exact hh,by simp only;omega,by simp only;omega,by simp only[Nat.pow_succ];have:c.toNat<=57:=by { simp only[QJ,Bool.and_eq_true,decide_eq_true_eq]at hdg;exact hdg.2 };omega⟩ (by simp only;omega)
  apply Le.of<;>simp[le9]<;>try omega
 have hdg':QJ c=false:=by simpa using hdg
 have hqe':¬(q:Int)=b.length:=by omega
 simp (disch:=omega) [zz,hdg']
 refine hE2 _ _ (by simp) ?_
 by_cases hck:c=58/\0<k
 rotate_left
 ·rw[if_neg hck,if_pos (.inl hdg')]at hh
  rw[<-hh]at hr
  simp only at hr
  rcases Nat.eq_zero_or_pos k with rfl|hk0
  ·simp (disch:=omega) [zz,hpk,hqe,hqe']
   refine hE _ _ (by simp) ?_
   simp (disch:=omega) [zz,Tryz.f79,<-hr,zW,qG]
  ·have hkz:¬k=0:=by omega
   have hkz':¬(k:Int)=0:=by omega
   have h58:¬c=58:=fun e=>hck ⟨e,hk0⟩
   have h58':¬(c.toNat:Int)=58:=by have:=zfe (n:=58) (by omega) h58;simpa using this
   simp (disch:=omega) [zz,hpk,hqe,hqe',hkz,hkz',hql,hc,h58']
   refine hE _ _ (by simp) ?_
   simp (disch:=omega) [zz,Tryz.f79,<-hr,zW,qG]
 obtain⟨rfl,hk0⟩:=hck
 have hkz:¬k=0:=by omega
 have hkz':¬(k:Int)=0:=by omega
 rw[if_pos ⟨rfl,hk0⟩]at hh
 rw[<-hh]at hr
 simp only[List.length_drop]at hr
 by_cases hsh:b.length-(q+1)<n
 ·have hsh':(b.length:Int)-(q+1)<n:=by omega
  rw[if_pos hsh]at hr
  simp (disch:=omega) [zz,hpk,hqe,hqe',hkz,hkz',hql,hc,hsh']
  refine hE _ _ (by simp) ?_
  simp (disch:=omega) [zz,Tryz.f79,<-hr,zW,qG]
 have hsh':¬(b.length:Int)-(q+1)<n:=by omega
 rw[if_neg hsh]at hr
 have hs1:List.drop (q+1) (List.take (q+1+n) b)=List.take n (List.drop (q+1) b):=by
  rw[List.drop_take];congr 1;omega
 have hle:(q:Int)+1+n<=b.length:=by omega
 rw[List.drop_drop]at hr
 cases tk with
 | zero =>
  obtain rfl:=h0 rfl
  simp (disch:=omega) [zz,hpk,hqe,hqe',hkz,hkz',hql,hc,hsh',hs1,hle,qQ,qG]
  (repeat with_reducible refine om ?_)
  refine hN _ (1,f,[(b.drop (q+1)).take n],q+1+n) ?_ ⟨by simpa using hr,by simp only;omega,by simp only;omega,by simp only[List.length_cons,List.length_nil];omega,by simp⟩ (by simp only;omega)
  apply Le.of<;>simp[le9,qG]<;>try omega
 | succ tk =>
  simp (disch:=omega) [zz,hpk,hqe,hqe',hkz,hkz',hql,hc,hsh',hs1,hle,qQ]
  (repeat with_reducible refine om ?_)
  refine hN _ (tk+2,f,out++[(b.drop (q+1)).take n],q+1+n) ?_ ⟨hr,by simp only;omega,by simp only;omega,by simp;omega,by simp⟩ (by simp only;omega)
  apply Le.of<;>simp[le9,qG]<;>try omega
  all_goals (intro j;by_cases hj:j=73<;>simp[hj])
end
end Go.Proofs.YtognnffjdckalaaGreatDoor
