/- A trace of bytes: the program. No condition beyond each theorem's own. -/
import Derived.Test.YtcioeonlclpacaaGreatDoorPDToP42
import Derived.Test.YtcioeonlclpacaaGreatDoorP40To3
set_option linter.unusedSimpArgs false
set_option linter.unusedVariables false
set_option linter.unusedSectionVars false
section
set_option maxRecDepth 100000
namespace Go.Proofs.YtcioeonlclpacaaGreatDoor
open Go Go.Ab
open Classical
variable [Sel] [SelPow] [SelErr]
def pR:Nat→List (List UInt8)→Bool→List XF × List (List UInt8) × Bool
 | 0,l,b=>([],l,b)
 | n+1,l,b=>((cR l b).1::(pR n (cR l b).2.1 (cR l b).2.2).1,(pR n (cR l b).2.1 (cR l b).2.2).2)
def pM:Nat→List (List UInt8)→Bool→List Made × Bool
 | 0,_,b=>([],b)
 | f+1,l,b=>if l=[]∨b=true then([],b) else
   (⟨(cT l b).1,(cD (cT l b).2.1 (cT l b).2.2).1⟩::(pM f (cD (cT l b).2.1 (cT l b).2.2).2.1 (cD (cT l b).2.1 (cT l b).2.2).2.2).1,(pM f (cD (cT l b).2.1 (cT l b).2.2).2.1 (cD (cT l b).2.1 (cT l b).2.2).2.2).2)
noncomputable def zFW (t:zaP):zaP × Int:=if zCW t=0 then(t,0) else(tr0,zCW t)
noncomputable def zF4 (l:List (List UInt8)):zaP × Int :=
 let k:=cD l false
 let n:=cN k.2.1 k.2.2
 let r:=pR n.1.toNat n.2.1 n.2.2
 let m:=pM (l.length+1) r.2.1 r.2.2
 if m.2=true then(tr0,3) else zFW ⟨k.1,r.1,m.1⟩
noncomputable def zDk (x:zaP × Int):TV:=.tup [(qD Tryz.prog 49,qK x.1),(.int .i64,.i .i64 x.2)]
noncomputable def zEz (b:List UInt8):zaP × Int:=if (zD9 b).2=0 then zF4 (zD9 b).1 else(tr0,(zD9 b).2)
theorem zEj:∀ {f:Nat} {out:List (List UInt8)} {b:List UInt8} {m:Nat},(∀x∈out,x.length≤m)→b.length≤m→(∀x∈(zDb f out b).1,x.length≤m)∧(zDb f out b).1.length≤out.length+b.length
 | 0,out,b,m,h,hb=>⟨h,by simp[zDb]⟩
 | f+1,out,b,m,h,hb=>by
  unfold zDb
  split
  ·exact⟨h,by simp⟩
  ·cases hh:zD2 0 0 b with
   | err e=>exact⟨by simp,by simp⟩
   | ok n rest =>
    have hl:=zDE hh
    simp only
    split
    ·exact⟨by simp,by simp⟩
    ·obtain⟨h1,h2⟩:=zEj (f:=f) (out:=out++[rest.take n]) (b:=rest.drop n) (m:=m) (fun x hx=>by
      rcases List.mem_append.1 hx with hx|hx
      ·exact h x hx
      ·rw[List.mem_singleton]at hx;subst hx;rw[List.length_take];omega) (by rw[List.length_drop];omega)
     refine⟨h1,Nat.le_trans h2 ?_⟩
     rw[List.length_append,List.length_drop];simp;omega
theorem zFt (b:List UInt8):(∀x∈(zD9 b).1,x.length≤b.length)∧(zD9 b).1.length≤b.length:=by
 have:=zEj (f:=b.length+1) (out:=[]) (b:=b) (m:=b.length) (by simp) (Nat.le_refl _)
 simpa[zD9]using this
def tkR (d:Nat):Nat→Tok
 | 0=>.full
 | k+1=>.own d (k+1)
abbrev zFE:Cfg:=⟨fun n=>n==22,fun n=>n==40||n==64||n==1000009||n==1000012||n==2000037||n==2000058||n==2000060⟩
theorem zEs (l:List (List UInt8)) (b:Bool):(cD l b).2.1.length≤l.length∧∀x∈(cD l b).2.1,x∈l:=⟨zE7 l b,fun x hx=>zDm hx⟩
theorem zG5 (l:List (List UInt8)) (b:Bool):(cN l b).2.1.length≤l.length∧(∀x∈(cN l b).2.1,x∈l)∧0≤(cN l b).1∧(cN l b).1≤l.length:=by
 have h1:=zE7 l b
 unfold cN
 split
 ·split
  ·rename_i h;exact⟨h1,fun x hx=>zDm hx,h.1,by have:=h.2;simp only;omega⟩
  ·exact⟨h1,fun x hx=>zDm hx,by simp,by simp⟩
 ·exact⟨h1,fun x hx=>zDm hx,by simp,by simp⟩
theorem zFD (l:List (List UInt8)) (b:Bool):(cR l b).2.1.length≤l.length∧∀x∈(cR l b).2.1,x∈l:=by
 have h1:=zE7 l b
 have h2:=zEs (cT l b).2.1 (cT l b).2.2
 unfold cR
 split
 ·exact⟨by simp;omega,fun x hx=>zDm (List.mem_of_mem_drop hx)⟩
 ·exact⟨by have:=h2.1;simp only;omega,fun x hx=>zDm (h2.2 x hx)⟩
theorem zFT (l:List (List UInt8)) (b:Bool):(cR l b).1.path=(cT l b).1:=by unfold cR;split<;>rfl
theorem zF2:∀(n:Nat) (l:List (List UInt8)) (b:Bool),(∀x∈l,x.length≤1000000000)→∀r∈(pR n l b).1,r.path.length≤1000000000
 | 0,l,b,h,r,hr=>by simp[pR]at hr
 | n+1,l,b,h,r,hr=>by
  simp only[pR]at hr
  rcases List.mem_cons.1 hr with rfl|hr
  ·rw[zFT];exact zEW h
  ·exact zF2 n _ _ (fun x hx=>h x ((zFD l b).2 x hx)) r hr
theorem zF1:∀(n:Nat) (l:List (List UInt8)) (b:Bool),(∀x∈l,x.length≤1000000000)→∀r∈(pM n l b).1,r.path.length≤1000000000
 | 0,l,b,h,r,hr=>by simp[pM]at hr
 | n+1,l,b,h,r,hr=>by
  simp only[pM]at hr
  split at hr
  ·cases hr
  ·rcases List.mem_cons.1 hr with rfl|hr
   ·exact zEW h
   ·exact zF1 n _ _ (fun x hx=>h x (zDm ((zEs _ _).2 x hx))) r hr
set_option maxHeartbeats 16000000 in
theorem zFN (b:List UInt8) (hb:b.length≤1000000000):PC Tryz.prog 156 [.av .str (.s b)] (zDk (zEz b)):=by
 obtain⟨hl1,hl2⟩:=zFt b
 obtain⟨X,hX⟩:∃X,zEz b=X:=⟨_,rfl⟩
 rw[hX]
 unfold zEz at hX
 have htx:=zFo b hb
 obtain⟨L,hL⟩:∃L,zD9 b=L:=⟨_,rfl⟩
 rw[hL]at hX htx hl1 hl2
 obtain⟨l,e⟩:=L
 simp only at hX hl1 hl2
 unfold PC
 refine q7.sub (R:=fun r H'=>r=zDk X) ?_ (fun r H' hr _=>⟨[],HSub.of_sub (List.nil_sublist _),hr,rfl⟩)
 refine zov Tryz.func156 zFE fun imm0 w0=>?_
 simp (disch:=omega) [zz]
 refine zcv htx ?_
 by_cases he:e=0
 rotate_left
 ·rw[if_neg he]at hX
  simp (disch:=omega) [zz,zDn,he]
  simp (disch:=omega) [zz,Tryz.f156,←hX,zDk,tr0,qK,qF,qJ,zCZ]
 subst he
 rw[if_pos rfl]at hX
 simp (disch:=omega) [zz,zDn]
 intro B
 replace hl2:l.length≤1000000000:=by omega
 replace hl1:∀x∈l,x.length≤1000000000:=fun x hx=>Nat.le_trans (hl1 x hx) hb
 unfold zF4 at hX
 simp only at hX
 have hk:=zDs B l false hl2 hl1
 have hks:=zEs l false
 obtain⟨K,hK⟩:∃K,cD l false=K:=⟨_,rfl⟩
 rw[hK]at hk hks hX
 obtain⟨kd,l1,b1⟩:=K
 simp only at hk hks hX
 have hn:=zER B l1 b1 (by omega) (fun x hx=>hl1 x (hks.2 x hx))
 have hns:=zG5 l1 b1
 obtain⟨N,hN⟩:∃N,cN l1 b1=N:=⟨_,rfl⟩
 rw[hN]at hn hns hX
 obtain⟨n,l2,b2⟩:=N
 simp only at hn hns hX
 obtain⟨m,rfl⟩:∃m:Nat,n=(m:Int):=⟨n.toNat,by omega⟩
 simp only[Int.toNat_natCast]at hX
 obtain⟨RR,hRR⟩:∃RR,pR m l2 b2=RR:=⟨_,rfl⟩
 rw[hRR]at hX
 have hm2:∀x∈l2,x.length≤1000000000:=fun x hx=>hl1 x (hks.2 x (hns.2.1 x hx))
 refine zio (R:=fun r H'=>r=.av (qD Tryz.prog 46) (KW kd)∧H'=zCV B l1 b1) (zCV B l false) [] (by simp[zCV]) rfl (by simp) (by simp) ?_ ?_
 ·simpa[TV.er,AV.er]using hk
 rintro r H' ⟨rfl,rfl⟩ _
 refine⟨_,HSub.refl _,?_⟩
 simp (disch:=omega) [zz,zCV]
 refine zio (R:=fun r H'=>r=.av (.int .i64) (.i .i64 m)∧H'=zCV B l2 b2) (zCV B l1 b1) [] (by simp[zCV]) rfl (by simp) (by simp) ?_ ?_
 ·simpa[TV.er,AV.er]using hn
 rintro r H' ⟨rfl,rfl⟩ _
 refine⟨_,HSub.refl _,?_⟩
 simp (disch:=omega) [zz,zCV]
 refine AT.loop' (α:=Nat × List XF × List (List UInt8) × Bool) (fun x=>St.of [(2,.loc 2 []),(6,.av .ptr (.ptr B zEt [])),(7,.av .func (.bm 183 [.ptr B zEt []])),(9,.loc 9 []),(31,.av (.int .i64) (.i .i64 m)),(32,.av (.int .i64) (.i .i64 x.1))] [(2,(qD Tryz.prog 49,.agg [KW zc4,.sl .full [],.sl .full []])),(9,(qD Tryz.prog 49,.agg [KW kd,.sl (tkR 39 x.1) (x.2.1.map qI),.sl .full []]))] (fun j=>if j=39 then x.1 else 0) (zCV B x.2.2.1 x.2.2.2))
  (fun x=>x.1≤m∧x.2.1.length=x.1∧(x.2.1++(pR (m-x.1) x.2.2.1 x.2.2.2).1,(pR (m-x.1) x.2.2.1 x.2.2.2).2)=RR∧x.2.2.1.length≤l2.length∧∀y∈x.2.2.1,y∈l2) (fun x=>m-x.1) (0,[],l2,b2) ?_ ?_ ?_
 ·apply Le.of<;>simp[qU,qG,qO,qH,qP,qK,qF,qI,qJ,qN,zCZ,tkR,zCV]<;>try omega
 ·exact⟨by simp,rfl,by simp[hRR],by simp,fun y hy=>hy⟩
 rintro⟨i,acc,lc,bc⟩ ⟨hi,hacc,hpr,hlc,hmc⟩ KL hNx hE
 simp only at hi hacc hpr hlc hmc hNx
 refine qM (cf:=zFE) laid mixed _ _ _ (by kernel_rfl) ?_
 by_cases hlt:i<m
 ·have hrd:=zFK B lc bc (by omega) (fun x hx=>hm2 x (hmc x hx))
  have hrs:=zFD lc bc
  have hmi:m-i=(m-(i+1))+1:=by omega
  rw[hmi]at hpr
  unfold pR at hpr
  obtain⟨C,hC⟩:∃C,cR lc bc=C:=⟨_,rfl⟩
  rw[hC]at hrd hrs hpr
  obtain⟨rd,l3,b3⟩:=C
  simp only at hrd hrs hpr
  cases i with
  | zero =>
   have hlt':(0:Int)<m:=by omega
   obtain rfl:=List.length_eq_zero_iff.1 hacc
   simp (disch:=omega) [zz,hlt',hlt,tkR]
   refine jW.of [0,1,2,3,4,5,6,7] [0,1] (by kernel_rfl) ?_
   simp (disch:=omega) [zz]
   (repeat with_reducible refine om ?_)
   refine jP (R:=fun r H'=>r=.av (qD Tryz.prog 105) (qI rd)∧H'=zCV B l3 b3) rfl (by simp[qQ]) (by simp) ?_ ?_
   ·simpa[TV.er,AV.er]using hrd
   rintro r H' ⟨rfl,rfl⟩
   simp (disch:=omega) [zz,wB,zCV]
   (repeat with_reducible refine om ?_)
   refine hNx _ (1,[rd],l3,b3) ?_ ⟨by simp only;omega,rfl,by simpa using hpr,by simp only;omega,fun y hy=>hmc y (hrs.2 y hy)⟩ (by simp only;omega)
   apply Le.of<;>simp[qU,qG,qO,qH,qP,qK,qF,qI,qJ,qN,tkR,zCV]<;>try omega
  | succ i =>
   have hlt':(i:Int)+1<m:=by omega
   have hge:(0:Int)≤(i:Int)+1:=by omega
   simp (disch:=omega) [zz,hlt',hlt,tkR]
   refine jW.of [0,1,2,3,4,5,6,7] [0,1] (by kernel_rfl) ?_
   simp (disch:=omega) [zz]
   (repeat with_reducible refine om ?_)
   refine jP (R:=fun r H'=>r=.av (qD Tryz.prog 105) (qI rd)∧H'=zCV B l3 b3) rfl (by simp[qQ]) (by simp) ?_ ?_
   ·simpa[TV.er,AV.er]using hrd
   rintro r H' ⟨rfl,rfl⟩
   simp (disch:=omega) [zz,wB,zCV,hacc]
   (repeat with_reducible refine om ?_)
   refine hNx _ (i+2,acc++[rd],l3,b3) ?_ ⟨by simp only;omega,by simp;omega,by simpa using hpr,by simp only;omega,fun y hy=>hmc y (hrs.2 y hy)⟩ (by simp only;omega)
   apply Le.of<;>simp[qU,qG,qO,qH,qP,qK,qF,qI,qJ,qN,tkR,zCV]<;>try omega
   all_goals (intro j;by_cases hj:j=39<;>simp[hj])
 have hin:i=m:=by omega
 have hlt':¬(i:Int)<m:=by omega
 rw[hin,Nat.sub_self]at hpr
 simp only[pR,List.append_nil]at hpr
 simp (disch:=omega) [zz,hlt']
 refine hE _ _ (by simp) ?_
 clear hNx hE
 subst hpr
 simp only at hX
 obtain⟨MM,hMM⟩:∃MM,pM (l.length+1) lc bc=MM:=⟨_,rfl⟩
 rw[hMM]at hX
 simp (disch:=omega) [zz]
 refine AT.loop' (α:=Nat × List Made × List (List UInt8) × Bool × Nat) (fun x=>St.of [(2,.loc 2 []),(6,.av .ptr (.ptr B zEt [])),(7,.av .func (.bm 183 [.ptr B zEt []])),(9,.loc 9 [])] [(2,(qD Tryz.prog 49,.agg [KW zc4,.sl .full [],.sl .full []])),(9,(qD Tryz.prog 49,.agg [KW kd,.sl (tkR 39 i) (acc.map qI),.sl (tkR 63 x.1) (x.2.1.map qN)]))] (fun j=>if j=63 then x.1 else if j=39 then i else 0) (zCV B x.2.2.1 x.2.2.2.1))
  (fun x=>x.2.1.length=x.1∧(x.2.1++(pM x.2.2.2.2 x.2.2.1 x.2.2.2.1).1,(pM x.2.2.2.2 x.2.2.1 x.2.2.2.1).2)=MM∧x.2.2.1.length<x.2.2.2.2∧x.1+x.2.2.1.length≤l.length∧∀y∈x.2.2.1,y∈l2) (fun x=>x.2.2.2.2) (0,[],lc,bc,l.length+1) ?_ ?_ ?_
 ·apply Le.of<;>simp[qU,qG,qO,qH,qP,qK,qF,qI,qJ,qN,zCZ,tkR,zCV]<;>try omega
  all_goals (intro j;by_cases hj:j=63<;>simp[hj])
 ·exact⟨rfl,by simp[hMM],by simp only;omega,by simp only;omega,hmc⟩
 rintro⟨i2,acc2,lw,bw,f⟩ ⟨hacc2,hpm,hlw,hi2,hmw⟩ KL2 hNx hE
 simp only at hacc2 hpm hlw hi2 hmw hNx
 refine qM (cf:=zFE) laid mixed _ _ _ (by kernel_rfl) ?_
 cases f with
 | zero=>omega
 | succ f =>
 unfold pM at hpm
 by_cases hst:lw=[]∨bw=true
 ·rw[if_pos hst]at hpm
  simp only[List.append_nil]at hpm
  subst hpm
  cases bw with
  | true =>
   rw[if_pos rfl]at hX
   cases lw with
   | nil =>
    simp (disch:=omega) [zz,zCV,zz6]
    refine hE _ _ (by simp) ?_
    simp (disch:=omega) [zz,zCV]
    simp (disch:=omega) [zz,Tryz.f156,←hX,zDk,tr0,qK,qF,qJ,zCZ]
   | cons s r =>
    have hpos:(0:Int)<(r.length:Int)+1:=by omega
    simp (disch:=omega) [zz,zCV,zz6,hpos]
    refine hE _ _ (by simp) ?_
    simp (disch:=omega) [zz,zCV]
    simp (disch:=omega) [zz,Tryz.f156,←hX,zDk,tr0,qK,qF,qJ,zCZ]
  | false =>
   rw[if_neg (by simp)]at hX
   have hlw0:lw=[]:=by rcases hst with h|h;exact h;cases h
   subst hlw0
   have htp:TrP ⟨kd,acc,acc2⟩:=by
    have p1:=zF2 m l2 b2 hm2
    rw[hRR]at p1
    have p2:=zF1 (l.length+1) lc bc (fun x hx=>hm2 x (hmc x hx))
    rw[hMM]at p2
    exact⟨⟨by simp only;omega,fun r hr=>Nat.le_trans (p1 r hr) (by decide)⟩,by simp only;omega,fun r hr=>Nat.le_trans (p2 r hr) (by decide)⟩
   simp (disch:=omega) [zz,zCV,zz6]
   refine hE _ _ (by simp) ?_
   simp (disch:=omega) [zz,zCV]
   refine qL (zDX _ htp) rfl rfl (by simp) (by simp[qS,TV.er,qK,AV.er,AV.ers,AV.ers_eq,qF,qJ,List.map_map,Function.comp_def]) ?_
   unfold zFW at hX
   by_cases hc:zCW ⟨kd,acc,acc2⟩=0
   ·rw[if_pos hc]at hX
    simp (disch:=omega) [zz,hc]
    simp (disch:=omega) [zz,Tryz.f156,←hX,zDk,qK,qF,qJ,AV.ers_eq,Function.comp_def]
   ·rw[if_neg hc]at hX
    simp (disch:=omega) [zz,hc]
    simp (disch:=omega) [zz,Tryz.f156,←hX,zDk,tr0,qK,qF,qJ,zCZ]
 rw[if_neg hst]at hpm
 have hbf:bw=false:=by cases bw with|false=>rfl|true=>exact absurd (.inr rfl) hst
 subst hbf
 cases lw with
 | nil=>exact absurd (.inl rfl) hst
 | cons s r =>
 simp only[cT]at hpm
 have hpos:(0:Int)<(r.length:Int)+1:=by omega
 have hrm:∀x∈r,x.length≤1000000000:=fun x hx=>hm2 x (hmw x (by simp[hx]))
 have hlr:r.length<f:=by simp at hlw;omega
 have hi2r:i2+(r.length+1)≤l.length:=by simpa using hi2
 have htxt:=zDj B (s::r) false (by simp;omega)
 simp only[cT]at htxt
 have hdg:=zDs B r false (by omega) hrm
 have hds:=zEs r false
 obtain⟨D,hD⟩:∃D,cD r false=D:=⟨_,rfl⟩
 rw[hD]at hdg hds hpm
 obtain⟨d1,d2,d3⟩:=D
 simp only at hdg hds hpm
 cases i2 with
 | zero =>
  obtain rfl:=List.length_eq_zero_iff.1 hacc2
  simp (disch:=omega) [zz,zCV,zz6,hpos,tkR]
  refine jW.of [0,1,2,4,3,5,6,7,8,9,10] [0,1,4] (by kernel_rfl) ?_
  simp (disch:=omega) [zz]
  (repeat with_reducible refine om ?_)
  refine jP (R:=fun r' H'=>r'=.av .str (.s s)∧H'=zCV B r false) rfl (by simp[qQ]) (by simp) ?_ ?_
  ·simpa[TV.er,AV.er,zCV,zz6,AV.ers_eq,AV.erk,AV.erks,AV.erks_eq,Function.comp_def,q8.er_cons,q8.er_nil,HObj.er_var,Tok.k]using htxt
  rintro r' H' ⟨rfl,rfl⟩
  simp (disch:=omega) [zz]
  (repeat with_reducible refine om ?_)
  refine zio (R:=fun r' H'=>r'=.av (qD Tryz.prog 46) (KW d1)∧H'=zCV B d2 d3) (zCV B r false) [] (by simp) rfl (by simp) (by simp) ?_ ?_
  ·simpa[TV.er,AV.er]using hdg
  rintro r' H' ⟨rfl,rfl⟩ _
  refine⟨_,HSub.refl _,?_⟩
  simp (disch:=omega) [zz,wB,zCV]
  (repeat with_reducible refine om ?_)
  refine hNx _ (1,[⟨s,d1⟩],d2,d3,f) ?_ ⟨rfl,by simpa using hpm,by simp only;omega,by simp only;omega,fun y hy=>hmw y (by simp[hds.2 y hy])⟩ (by simp only;omega)
  apply Le.of<;>simp[qU,qG,qO,qH,qP,qK,qF,qI,qJ,qN,tkR,zCV]<;>try omega
  all_goals (intro j;by_cases hj:j=63<;>simp[hj])
 | succ i2 =>
  simp (disch:=omega) [zz,zCV,zz6,hpos,tkR]
  refine jW.of [0,1,2,4,3,5,6,7,8,9,10] [0,1,4] (by kernel_rfl) ?_
  simp (disch:=omega) [zz]
  (repeat with_reducible refine om ?_)
  refine jP (R:=fun r' H'=>r'=.av .str (.s s)∧H'=zCV B r false) rfl (by simp[qQ]) (by simp) ?_ ?_
  ·simpa[TV.er,AV.er,zCV,zz6,AV.ers_eq,AV.erk,AV.erks,AV.erks_eq,Function.comp_def,q8.er_cons,q8.er_nil,HObj.er_var,Tok.k]using htxt
  rintro r' H' ⟨rfl,rfl⟩
  simp (disch:=omega) [zz]
  (repeat with_reducible refine om ?_)
  refine zio (R:=fun r' H'=>r'=.av (qD Tryz.prog 46) (KW d1)∧H'=zCV B d2 d3) (zCV B r false) [] (by simp) rfl (by simp) (by simp) ?_ ?_
  ·simpa[TV.er,AV.er]using hdg
  rintro r' H' ⟨rfl,rfl⟩ _
  refine⟨_,HSub.refl _,?_⟩
  simp (disch:=omega) [zz,wB,zCV,hacc2]
  (repeat with_reducible refine om ?_)
  refine hNx _ (i2+2,acc2++[⟨s,d1⟩],d2,d3,f) ?_ ⟨by simp;omega,by simpa using hpm,by simp only;omega,by simp only;omega,fun y hy=>hmw y (by simp[hds.2 y hy])⟩ (by simp only;omega)
  apply Le.of<;>simp[qU,qG,qO,qH,qP,qK,qF,qI,qJ,qN,tkR,zCV]<;>try omega
  all_goals (intro j;by_cases hj:j=63<;>simp[hj])
def rG:Nat→List (List UInt8)→Option (List XF × List Made)
 | n+1,p::s::r=>if s=[] then(rG n r).map fun x=>(⟨p,false,zc4⟩::x.1,x.2)
   else if s.length=32 then(rG n r).map fun x=>(⟨p,true,s⟩::x.1,x.2) else none
 | 0,p::s::r=>if s.length=32 then(rG 0 r).map fun x=>(x.1,⟨p,s⟩::x.2) else none
 | _,_=>some ([],[])
noncomputable def zF6 (l:List (List UInt8)):zaP × Int :=
 match l with
 | k::c::r=>if r.length % 2=1∨k.length≠32 then(tr0,3) else match zDD c with
  | none=>(tr0,3)
  | some n=>if n<0∨(r.length:Int)<2*n then(tr0,3) else match rG n.toNat r with
   | none=>(tr0,3)
   | some x=>zFW ⟨k,x.1,x.2⟩
 | _=>(tr0,3)
theorem zFZ (l:List (List UInt8)):(cR l true).2.2=true:=by
 unfold cR
 have h:∀l,(cT l true).2.2=true:=fun l=>by cases l<;>rfl
 split
 ·exact h l
 ·simp only[cD,h,Bool.true_or]
theorem zEY:∀(n:Nat) (l:List (List UInt8)),(pR n l true).2.2=true
 | 0,l=>rfl
 | n+1,l=>by simp only[pR,zFZ];exact zEY n _
theorem zE9 (f:Nat) (l:List (List UInt8)):(pM f l true).2=true:=by cases f<;>simp[pM]
theorem zF5:∀(m:Nat) (f:Nat) (l:List (List UInt8)),l.length≤m→l.length<f→
  (l.length % 2=1→(pM f l false).2=true)∧(l.length % 2=0→match rG 0 l with
   | some x=>x.1=[]∧pM f l false=(x.2,false)
   | none=>(pM f l false).2=true)
 | m,f,[],_,hf=>by
  obtain⟨f,rfl⟩:∃g,f=g+1:=⟨f-1,by omega⟩
  exact⟨by simp,fun _=>by simp[rG,pM]⟩
 | m,f,[p],_,hf=>by
  obtain⟨f,rfl⟩:∃g,f=g+1:=⟨f-1,by simp at hf;omega⟩
  refine⟨fun _=>?_,by simp⟩
  simp only[pM,cT,cD,Bool.true_or]
  simp only[List.cons_ne_nil,Bool.false_eq_true,or_self,if_false]
  exact zE9 f []
 | 0,f,p::s::r,hm,hf=>by simp at hm
 | m+1,f,p::s::r,hm,hf=>by
  obtain⟨f,rfl⟩:∃g,f=g+1:=⟨f-1,by simp at hf;omega⟩
  have ih:=zF5 m f r (by simp at hm;omega) (by simp at hf;omega)
  have e:pM (f+1) (p::s::r) false=(⟨p,zDH s⟩::(pM f r (decide (s.length≠32))).1,(pM f r (decide (s.length≠32))).2):=by
   rw[pM,if_neg (by simp)]
   rfl
  rw[e]
  by_cases h32:s.length=32
  ·have hd:decide (s.length≠32)=false:=by simp[h32]
   rw[hd]
   refine⟨fun ho=>ih.1 (by simp at ho;omega),fun he=>?_⟩
   have h2:=ih.2 (by simp at he;omega)
   unfold rG
   rw[if_pos h32]
   cases hg:rG 0 r with
   | none=>rw[hg]at h2;simpa using h2
   | some x =>
    rw[hg]at h2
    simp only[Option.map_some]
    refine⟨h2.1,?_⟩
    rw[h2.2,zDU h32]
  ·have hd:decide (s.length≠32)=true:=by simp[h32]
   rw[hd]
   refine⟨fun _=>zE9 f r,fun he=>?_⟩
   unfold rG
   rw[if_neg h32]
   exact zE9 f r
theorem zF3:∀(n:Nat) (l:List (List UInt8)) (f:Nat),2*n≤l.length→l.length<f→
  (l.length % 2=1→(pM f (pR n l false).2.1 (pR n l false).2.2).2=true)∧(l.length % 2=0→match rG n l with
   | some x=>(pR n l false).1=x.1∧pM f (pR n l false).2.1 (pR n l false).2.2=(x.2,false)
   | none=>(pM f (pR n l false).2.1 (pR n l false).2.2).2=true)
 | 0,l,f,_,hf=>by
  have:=zF5 l.length f l (Nat.le_refl _) hf
  refine⟨this.1,fun he=>?_⟩
  have h2:=this.2 he
  simp only[pR]
  cases hg:rG 0 l with
  | none=>rw[hg]at h2;exact h2
  | some x=>rw[hg]at h2;exact⟨h2.1.symm,h2.2⟩
 | n+1,[],f,h,_=>by simp at h
 | n+1,[p],f,h,_=>by simp at h;omega
 | n+1,p::s::r,f,h,hf=>by
  have ih:=zF3 n r f (by simp at h;omega) (by simp at hf;omega)
  unfold rG
  by_cases hs:s=[]
  ·subst hs
   have hc:cR (p::[]::r) false=(⟨p,false,zc4⟩,r,false):=by simp[cR,cT]
   simp only[pR,hc,if_true]
   refine⟨fun ho=>ih.1 (by simp at ho;omega),fun he=>?_⟩
   have h2:=ih.2 (by simp at he;omega)
   cases hg:rG n r with
   | none=>rw[hg]at h2;exact h2
   | some x=>rw[hg]at h2;simp only[Option.map_some];exact⟨by rw[h2.1],h2.2⟩
  ·have hc:cR (p::s::r) false=(⟨p,true,zDH s⟩,r,decide (s.length≠32)):=by
    unfold cR
    rw[if_neg (by simpa[cT]using hs)]
    rfl
   simp only[pR,hc,if_neg hs]
   by_cases h32:s.length=32
   ·have hd:decide (s.length≠32)=false:=by simp[h32]
    rw[hd,if_pos h32]
    refine⟨fun ho=>ih.1 (by simp at ho;omega),fun he=>?_⟩
    have h2:=ih.2 (by simp at he;omega)
    cases hg:rG n r with
    | none=>rw[hg]at h2;exact h2
    | some x=>rw[hg]at h2;simp only[Option.map_some];exact⟨by rw[h2.1,zDU h32],h2.2⟩
   ·have hd:decide (s.length≠32)=true:=by simp[h32]
    rw[hd,if_neg h32]
    have hb:(pM f (pR n r true).2.1 (pR n r true).2.2).2=true:=by rw[zEY];exact zE9 _ _
    exact⟨fun _=>hb,fun _=>hb⟩
theorem zFV (l:List (List UInt8)):zF4 l=zF6 l:=by
 have bad:∀(n:Nat) (l2:List (List UInt8)) (f:Nat),(pM f (pR n l2 true).2.1 (pR n l2 true).2.2).2=true:=fun n l2 f=>by rw[zEY];exact zE9 _ _
 unfold zF4
 simp only
 cases l with
 | nil =>
  have h1:cD [] false=(zDH [],[],true):=by simp[cD,cT]
  have h2:(cN [] true).2.2=true:=by unfold cN;split<;>(try split)<;>rfl
  rw[h1,h2,if_pos (bad _ _ _)];rfl
 | cons k l =>
  cases l with
  | nil =>
   have h2:∀b,(cN [] b).2.2=true:=fun b=>by unfold cN;split<;>(try split)<;>rfl
   have h1:(cD [k] false).2.1=[]:=rfl
   rw[h1,h2,if_pos (bad _ _ _)];rfl
  | cons c r =>
   have h1:cD (k::c::r) false=(zDH k,c::r,decide (k.length≠32)):=rfl
   rw[h1]
   simp only[zF6]
   by_cases hk:k.length=32
   rotate_left
   ·have hd:decide (k.length≠32)=true:=by simp[hk]
    have h2:(cN (c::r) true).2.2=true:=by unfold cN;split<;>(try split)<;>rfl
    rw[hd,h2,if_pos (bad _ _ _),if_pos (.inr hk)]
   have hd:decide (k.length≠32)=false:=by simp[hk]
   rw[hd,zDU hk]
   cases hi:zDD c with
   | none =>
    have h2:cN (c::r) false=(0,r,true):=by simp only[cN,cT,hi]
    rw[h2,if_pos (bad _ _ _)]
    split<;>rfl
   | some n =>
    by_cases hn:0≤n∧n≤((r.length / 2:Nat):Int)
    rotate_left
    ·have h2:cN (c::r) false=(0,r,true):=by
      simp only[cN,cT,hi]
      exact if_neg hn
     rw[h2,if_pos (bad _ _ _)]
     split
     ·rfl
     ·simp only;rw[if_pos (by omega)]
    have h2:cN (c::r) false=(n,r,false):=by
     simp only[cN,cT,hi]
     exact if_pos hn
    have hsp:=zF3 n.toNat r ((k::c::r).length+1) (by omega) (by simp;omega)
    rw[h2]
    simp only
    by_cases ho:r.length % 2=1
    ·rw[if_pos (hsp.1 ho),if_pos (.inl ho)]
    ·have h3:=hsp.2 (by omega)
     have c1:¬(r.length % 2=1∨k.length≠32):=by omega
     have c2:¬(n<0∨(r.length:Int)<2*n):=by omega
     rw[if_neg c1,if_neg c2]
     cases hg:rG n.toNat r with
     | none=>rw[hg]at h3;simp only at h3;rw[if_pos h3]
     | some x =>
      rw[hg]at h3
      simp only at h3 ⊢
      rw[h3.2,if_neg (by simp),h3.1]
end Go.Proofs.YtcioeonlclpacaaGreatDoor
end
section
set_option maxRecDepth 100000
namespace Go.Proofs.YtcioeonlclpacaaGreatDoor
open Go Go.Ab
open Classical
variable [Sel] [SelPow]
@[simp] theorem zkc:qZ Tryz.prog 136=true:=by kernel_rfl
@[simp] theorem zqX:z8 Tryz.prog (.func 136)=false:=q9 zkc
end Go.Proofs.YtcioeonlclpacaaGreatDoor
end
