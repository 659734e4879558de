/- Rows of texts taken apart; numbers of texts: plain. No condition. -/
import Derived.Lib.ParseIntBCases
import Derived.Test.YtognnffjdckalaaGreatDoorD8ToD9a
set_option linter.unusedSimpArgs false
set_option linter.unusedVariables false
set_option linter.unusedSectionVars false
set_option maxHeartbeats 64000000
set_option maxRecDepth 100000
namespace Go.Proofs.YtognnffjdckalaaGreatDoor
open Go Go.Ab
open Classical
section
variable [Sel] [SelPow]
inductive HeadR
 | ok (n:Nat) (rest:List UInt8)
 | err (e:Int)
abbrev QJ (c:UInt8):Bool:=decide (48<=c.toNat)&&decide (c.toNat<=57)
def kS:Nat->Nat->List UInt8->HeadR
 | _,_,[]=>.err 4
 | k,n,c::r=>if c=58/\0<k then .ok n r else if QJ c=false\/k=9\/(0<k/\n=0) then .err 3 else kS (k+1) (10*n+(c.toNat-48)) r
def ZJ:Nat->List (List UInt8)->List UInt8->List (List UInt8) × Int
 | 0,out,_=>(out,0)
 | f+1,out,b=>if b=[] then(out,0) else match kS 0 0 b with
  | .err e=>([],e)
  | .ok n rest=>if rest.length<n then([],4) else ZJ f (out++[rest.take n]) (rest.drop n)
def kO (b:List UInt8):List (List UInt8) × Int:=ZJ (b.length+1) [] b
theorem vQ:∀ {b:List UInt8} {k n m:Nat} {rest:List UInt8},kS k n b=.ok m rest->rest.length<b.length
 | [],_,_,_,_,h=>by simp[kS]at h
 | c::r,k,n,m,rest,h=>by
  unfold kS at h
  split at h
  ·cases h;simp
  ·split at h
   ·cases h
   ·have:=vQ h;simp;omega
theorem zdc:∀ {b:List UInt8} {k n m:Nat} {rest:List UInt8},(0<k->∃ds:List UInt8,ds.length=k/\ds=Lib.decDigits n)->(k=0->n=0)->kS k n b=.ok m rest->
  (if k=0 then [] else Lib.decDigits n)++b=Lib.decDigits m++58::rest
 | [],_,_,_,_,_,_,h=>by simp[kS]at h
 | c::r,k,n,m,rest,h1,h0,h=>by
  unfold kS at h
  split at h
  ·rename_i hc
   cases h
   rw[if_neg (by omega),hc.1]
  ·split at h
   ·cases h
   ·rename_i h2
    simp only[not_or,QJ,Bool.and_eq_false_iff,decide_eq_false_iff_not,not_not]at h2
    obtain⟨h3,h4,h5⟩:=h2
    have hlast:Lib.decDigits (10*n+(c.toNat-48))=(if k=0 then [] else Lib.decDigits n)++[c]:=by
     have hcc:UInt8.ofNat (48+(c.toNat-48))=c:=by
      rw[show 48+(c.toNat-48)=c.toNat by omega];simp
     by_cases hk:k=0
     ·rw[if_pos hk,h0 hk,Lib.decDigits,dif_pos (by omega)]
      simp only[Nat.mul_zero,Nat.zero_add,List.nil_append,hcc]
     ·have hn:n≠0:=fun e=>h5 ⟨by omega,e⟩
      rw[if_neg hk,Lib.decDigits,dif_neg (by omega)]
      rw[show (10*n+(c.toNat-48)) / 10=n by omega,show (10*n+(c.toNat-48)) % 10=c.toNat-48 by omega,hcc]
    have ih:=zdc (k:=k+1) (n:=10*n+(c.toNat-48)) (fun _=>⟨_,by
      rw[hlast,List.length_append]
      by_cases hk:k=0
      ·rw[if_pos hk,hk];rfl
      ·rw[if_neg hk]
       obtain⟨ds,d1,d2⟩:=h1 (by omega)
       rw[<-d2,d1];rfl,rfl⟩) (by omega) h
    rw[if_neg (by omega),hlast]at ih
    rw[<-ih];simp
theorem zjE {b rest:List UInt8} {n:Nat} (h:kS 0 0 b=.ok n rest):b=Lib.decDigits n++58::rest:=by
 have:=zdc (by omega) (by simp) h
 simpa using this
theorem zba:∀ {f:Nat} {out:List (List UInt8)} {b:List UInt8} {l:List (List UInt8)},b.length<f->ZJ f out b=(l,0)->k9 l=k9 out++b
 | 0,_,_,_,h,_=>by omega
 | f+1,out,b,l,h,e=>by
  unfold ZJ at e
  split at e
  ·rename_i hb;simp only[Prod.mk.injEq,and_true]at e;rw[hb,e];simp
  ·cases hh:kS 0 0 b with
   | err er =>
    rw[hh]at e
    simp only[Prod.mk.injEq]at e
    obtain⟨rfl,rfl⟩:=e
    exfalso
    have:∀ {b:List UInt8} {k n:Nat},kS k n b≠.err 0:=by
     intro b
     induction b with
     | nil=>intro k n h;simp[kS]at h
     | cons c r ih =>
      intro k n h
      unfold kS at h
      split at h
      ·cases h
      ·split at h
       ·simp at h
       ·exact ih h
    exact this hh
   | ok n rest =>
    rw[hh]at e
    simp only at e
    have hl:=vQ hh
    split at e
    ·simp at e
    ·rename_i hn
     have ih:=zba (f:=f) (by simp;omega) e
     rw[ih,U6,zjE hh]
     have htl:(rest.take n).length=n:=by rw[List.length_take];omega
     simp only[k9,htl,yR,List.append_nil,List.append_assoc,List.cons_append,List.take_append_drop]
theorem PU {b:List UInt8} {l:List (List UInt8)} (h:kO b=(l,0)):k9 l=b:=by
 have:=zba (f:=b.length+1) (by omega) h
 simpa[k9]using this
noncomputable def YF (c:List UInt8):Option Int:=match Lib.parseIntB 64 c with
 | .ok v=>if Lib.itoa v=c then some v else none
 | _=>none
def W0 (a:Nat) (l:List UInt8):Nat:=l.foldl (fun a b=>a*10+(b.toNat-48)) a
theorem zis:∀(l:List UInt8) (a:Nat),a<=W0 a l
 | [],a=>Nat.le_refl _
 | c::l,a=>Nat.le_trans (by omega) (zis l (a*10+(c.toNat-48)))
theorem UO (M:Nat) (hM:M<=18446744073709551615):∀(l:List UInt8) (a:Nat),(∀c∈l,QJ c=true)->W0 a l<=M->Lib.parseUintM M a l=.ok (W0 a l)
 | [],a,_,_=>rfl
 | c::l,a,h,hv=>by
  have h1:=h c (by simp)
  simp only[QJ,Bool.and_eq_true,decide_eq_true_eq]at h1
  have h2:a*10+(c.toNat-48)<=W0 a (c::l):=zis l _
  unfold Lib.parseUintM
  rw[if_pos h1,if_neg (by omega),if_neg (by omega)]
  exact UO M hM l _ (fun x hx=>h x (by simp[hx])) hv
theorem ZE (u:Nat):∀c∈Lib.decDigits u,QJ c=true:=by
 induction u using Nat.strongRecOn with
 | ind u ih =>
  rw[Lib.decDigits]
  have key:∀d:Nat,d<10->QJ (UInt8.ofNat (48+d))=true:=fun d hd=>by
   have:(UInt8.ofNat (48+d)).toNat=48+d:=by simp;omega
   simp only[QJ,this,Bool.and_eq_true,decide_eq_true_eq];omega
  split
  ·rename_i h
   intro b hb
   rw[List.mem_singleton]at hb
   subst hb
   exact key u h
  ·rename_i h
   intro b hb
   rcases List.mem_append.1 hb with hb|hb
   ·exact ih (u / 10) (by omega) b hb
   ·rw[List.mem_singleton]at hb
    subst hb
    exact key (u % 10) (by omega)
theorem yK (u:Nat):Lib.decDigits u≠[]:=by
 rw[Lib.decDigits];split<;>simp
theorem zhj (v:Int) (h0:-9223372036854775808<=v) (h1:v<=9223372036854775807):Lib.parseIntB 64 (Lib.itoa v)=.ok v:=by
 have key:∀u:Nat,u<=9223372036854775808->Lib.parseUintB 64 (Lib.decDigits u)=.ok u:=fun u hu=>by
  have hv:W0 0 (Lib.decDigits u)=u:=Y3 u
  unfold Lib.parseUintB
  rw[if_neg (yK u)]
  have:=UO (2 ^ 64-1) (by decide) (Lib.decDigits u) 0 (ZE u) (by rw[hv];omega)
  rw[hv]at this;exact this
 by_cases hv:v<0
 ·obtain⟨u,rfl⟩:∃u:Nat,v=-(u:Int):=⟨v.natAbs,by omega⟩
  have e:Lib.itoa (-(u:Int))=45::Lib.decDigits u:=by unfold Lib.itoa;rw[if_pos hv];simp
  rw[e,Lib.parseIntB_minus,key u (by omega)]
  simp only[Lib.signedC]
  rw[if_neg (by omega)]
 ·obtain⟨u,rfl⟩:∃u:Nat,v=(u:Int):=⟨v.toNat,by omega⟩
  have e:Lib.itoa (u:Int)=Lib.decDigits u:=yR u
  rw[e]
  have hd:=ZE u
  cases hc:Lib.decDigits u with
  | nil=>exact absurd hc (yK u)
  | cons c r =>
   have h2:=hd c (by rw[hc];simp)
   simp only[QJ,Bool.and_eq_true,decide_eq_true_eq]at h2
   rw[Lib.parseIntB_plain 64 c r (by omega) (by omega),<-hc,key u (by omega)]
   simp only[Lib.signlessC]
   rw[if_neg (by omega)]
theorem zcN {v:Int} (h0:-9223372036854775808<=v) (h1:v<=9223372036854775807):YF (Lib.itoa v)=some v:=by
 unfold YF
 rw[zhj v h0 h1]
 simp
theorem XL {c:List UInt8} {v:Int} (h:YF c=some v):Lib.parseIntB 64 c=.ok v/\Lib.itoa v=c/\-9223372036854775808<=v/\v<=9223372036854775807:=by
 unfold YF at h
 split at h
 ·rename_i w hw
  split at h
  ·rename_i hi
   cases h
   refine⟨hw,hi,?_⟩
   unfold Lib.parseIntB at hw
   split at hw
   ·cases hw
   ·rename_i ch r
    simp only at hw
    split at hw
    ·cases hw
    ·cases hw
    ·split at hw
     ·cases hw
     ·split at hw
      ·cases hw
      ·rename_i h1 h2
       cases hw
       split
       ·rename_i h3
        have:¬2 ^ (64-1)<_:=fun h=>h2 ⟨h3,h⟩
        simp at this
        omega
       ·rename_i h3
        have:¬2 ^ (64-1)<=_:=fun h=>h1 ⟨h3,h⟩
        simp at this
        omega
  ·cases h
 ·cases h
theorem UB (c:UInt8):PC Tryz.prog 135 [.av (.int .u8) (.i .u8 c.toNat)] (.av .bool (.b (QJ c))):=by
 refine zow Tryz.func135 cf0 fun imm0 w0=>?_
 by_cases h1:48<=c.toNat
 ·have h1':(48:Int)<=c.toNat:=by omega
  by_cases h2:c.toNat<=57
  ·have h2':(c.toNat:Int)<=57:=by omega
   simp (disch:=omega) [zz,h1',h2',Tryz.f135,QJ,h1,h2]
  ·have h2':¬(c.toNat:Int)<=57:=by omega
   simp (disch:=omega) [zz,h1',h2',Tryz.f135,QJ,h1,h2]
 ·have h1':¬(48:Int)<=c.toNat:=by omega
  simp (disch:=omega) [zz,h1',Tryz.f135,QJ,h1]
theorem za1 {n:Int} (h0:0<=n) (h1:n<10):Lib.itoa n=[UInt8.ofNat (48+n.toNat)]:=by
 unfold Lib.itoa
 rw[if_neg (by omega),Lib.decDigits,dif_pos (by omega)]
theorem zg8 {n:Int} (h:10<=n):Lib.itoa n=Lib.itoa (n / 10)++Lib.itoa (n % 10):=by
 obtain⟨u,rfl⟩:∃u:Nat,n=(u:Int):=⟨n.toNat,by omega⟩
 have e1:((u:Int) / 10)=((u / 10:Nat):Int):=by omega
 have e2:((u:Int) % 10)=((u % 10:Nat):Int):=by omega
 rw[e1,e2,yR,yR,yR,Lib.decDigits,dif_neg (by omega),Lib.decDigits.eq_1 (u % 10),dif_pos (by omega)]
theorem zbx {n:Int} (h:n<0):Lib.itoa n=45::Lib.itoa (-n):=by
 unfold Lib.itoa
 rw[if_pos h,if_neg (by omega)]
 congr 2;omega
theorem GD (n:Int):(Lib.itoa n).length<=n.natAbs+2:=by
 unfold Lib.itoa
 split
 ·have:=wN n.natAbs
  simp;omega
 ·have:=wN n.toNat
  omega
theorem vD (n:Int) (h0:0<=n) (h1:n<10):PC Tryz.prog 112 [.av (.int .i64) (.i .i64 n)] (.av .str (.s (Lib.itoa n))):=by
 refine zow Tryz.func112 cf0 fun imm0 w0=>?_
 have e:=za1 h0 h1
 have hw:IntKind.u8.wrap (48+n)=48+n:=by
  simp only[IntKind.wrap,IntKind.signed,IntKind.bits];simp;omega
 have ht:(48+n).toNat=48+n.toNat:=by omega
 simp (disch:=omega) [zz,h0,h1,hw,ht,Tryz.f112,e]
theorem zed:∀(m:Nat) (n:Int),n.natAbs<=m->-9223372036854775808<=n->n<=9223372036854775807->PC Tryz.prog 112 [.av (.int .i64) (.i .i64 n)] (.av .str (.s (Lib.itoa n))):=by
 intro m
 induction m using Nat.strongRecOn with
 | ind m ih =>
 intro n hm h0 h1
 by_cases ha:0<=n/\n<10
 ·exact vD n ha.1 ha.2
 refine zow Tryz.func112 cf0 fun imm0 w0=>?_
 by_cases hb:n<0
 ·have hnn:¬0<=n:=by omega
  by_cases hc:-10<n
  ·have hi:=zbx hb
   simp (disch:=omega) [zz,hnn,hb,hc]
   refine zcv (vD (-n) (by omega) (by omega)) ?_
   have e:=za1 (n:=-n) (by omega) (by omega)
   simp (disch:=omega) [zz,e,Tryz.f112,hi]
  ·obtain⟨p,hp⟩:∃p,p=-n:=⟨_,rfl⟩
   have hd:n.tdiv 10=-(p / 10):=by
    have:n=-p:=by omega
    rw[this,Int.neg_tdiv,Int.tdiv_eq_ediv_of_nonneg (by omega)]
   have ht:n.tmod 10=-(p % 10):=by
    have:n=-p:=by omega
    rw[this,Int.neg_tmod,Int.tmod_eq_emod_of_nonneg (by omega)]
   have hi:Lib.itoa (-(p / 10))++Lib.itoa (p % 10)=Lib.itoa n:=by
    rw[zbx hb,zbx (n:=-(p / 10)) (by omega),<-hp,zg8 (n:=p) (by omega)]
    simp
   have hlen:=GD (-(p / 10))
   have hlen2:=GD (p % 10)
   by_cases hz:p % 10=0
   ·rw[hz]at ht hi hlen2
    simp (disch:=omega) [zz,hnn,hb,hc,ht,hd]
    refine zcv (ih (-(p / 10)).natAbs (by omega) (-(p / 10)) (Nat.le_refl _) (by omega) (by omega)) ?_
    simp (disch:=omega) [zz]
    refine zcv (vD 0 (by omega) (by omega)) ?_
    simp (disch:=omega) [zz,hi,Tryz.f112]
    omega
   ·have hz':-(p % 10)<0:=by omega
    have hz2:0<p % 10:=by omega
    simp (disch:=omega) [zz,hnn,hb,hc,ht,hd,hz',hz2]
    refine zcv (ih (-(p / 10)).natAbs (by omega) (-(p / 10)) (Nat.le_refl _) (by omega) (by omega)) ?_
    simp (disch:=omega) [zz]
    refine zcv (vD (p % 10) (by omega) (by omega)) ?_
    simp (disch:=omega) [zz,hi,Tryz.f112]
    omega
 ·have hnn:0<=n:=by omega
  have hc:¬n<10:=by omega
  have hd:n.tdiv 10=n / 10:=Int.tdiv_eq_ediv_of_nonneg hnn
  have ht:n.tmod 10=n % 10:=Int.tmod_eq_emod_of_nonneg hnn
  have hz:¬n % 10<0:=by omega
  have hi:Lib.itoa (n / 10)++Lib.itoa (n % 10)=Lib.itoa n:=(zg8 (by omega)).symm
  have hlen:=GD (n / 10)
  have hlen2:=GD (n % 10)
  simp (disch:=omega) [zz,hnn,hb,hc,hd,ht,hz]
  refine zcv (ih (n / 10).natAbs (by omega) (n / 10) (Nat.le_refl _) (by omega) (by omega)) ?_
  simp (disch:=omega) [zz]
  refine zcv (vD (n % 10) (by omega) (by omega)) ?_
  simp (disch:=omega) [zz,hi,Tryz.f112]
  omega
def tkW (d:Nat):Nat->Tok
 | 0=>.full
 | k+1=>.own d (k+1)
theorem PZ (d:Dig) (hd:d.length=32):PC Tryz.prog 111 [.av (q8 Tryz.prog 53) (qK d)] (.av .str (.s d)):=by
 refine zow Tryz.func111 cf0 fun imm0 w0=>?_
 simp (disch:=omega) [zz]
 refine AT.loop' (α:=Nat) (fun k=>St.of [(1,.loc 1 []),(3,.av (.slice 5) (.sl (tkW 14 k) ((bys d).take k))),(4,.av (.int .i64) (.i .i64 k))] [(1,(q8 Tryz.prog 53,qK d))] (fun j=>if j=14 then k else 0) [])
  (fun k=>k<=32) (fun k=>32-k) 0 ?_ ?_ ?_
 ·apply Le.of<;>simp[le9,tkW]<;>try omega
 ·simp
 rintro k hk KL hN hE
 refine zrd cf0 ?_
 by_cases hlt:k<32
 ·have hkd:k<d.length:=by omega
  have hbl:(bys d).length=32:=by simp[hd]
  have hst:(bys d).take (k+1)=(bys d).take k++[.i .u8 d[k].toNat]:=by
   rw[List.take_succ_eq_append_getElem (by omega)]
   simp[bys]
  have hgk:(bys d)[k]?=some (.i .u8 d[k].toNat):=by simp[bys,hkd]
  have hg2:(bys d)[k]'(by omega)=.i .u8 d[k].toNat:=by simp[bys]
  have htl:((bys d).take k).length=k:=by rw[List.length_take];omega
  cases k with
  | zero =>
   simp (disch:=omega) [zz,uW,hgk,hg2,hbl,tkW]
   simp (disch:=omega) [zz,qQ]
   refine hN _ 1 ?_ (by omega) (by omega)
   apply Le.of<;>simp[le9,tkW,hst,uW]<;>try omega
  | succ k =>
   have hlt':(k:Int)+1<32:=by omega
   have hge:(0:Int)<=(k:Int)+1:=by omega
   simp (disch:=omega) [zz,hlt',hlt,uW,hgk,hg2,hbl,tkW]
   refine⟨by omega,?_⟩
   simp (disch:=omega) [zz,qQ,htl]
   (repeat with_reducible refine om ?_)
   refine hN _ (k+2) ?_ (by omega) (by omega)
   apply Le.of<;>simp[le9,tkW,hst,uW]<;>try omega
   all_goals (intro j;by_cases hj:j=14<;>simp[hj])
 have hk32:k=32:=by omega
 subst hk32
 simp (disch:=omega) [zz]
 refine hE _ _ (by simp) ?_
 have h1:(bys d).take 32=bys d:=List.take_of_length_le (by simp[hd])
 have h2:=x4 d
 simp (disch:=omega) [zz,h1,h2,Tryz.f111]
theorem dF (n:Nat) (h:n<10):PC Tryz.prog 163 [.av (.int .i64) (.i .i64 n)] (.av .str (.s (Lib.decDigits n))):=by
 refine zow Tryz.func163 cf0 fun imm0 w0=>?_
 have hn:(n:Int)<10:=by omega
 have e:Lib.decDigits n=[UInt8.ofNat (48+n)]:=by rw[Lib.decDigits,dif_pos h]
 have hw:IntKind.u8.wrap (48+(n:Int))=48+n:=by
  simp only[IntKind.wrap,IntKind.signed,IntKind.bits];simp;omega
 have ht:(48+(n:Int)).toNat=48+n:=by omega
 simp (disch:=omega) [zz,hn,hw,ht,Tryz.f163,e]
theorem zia:∀(m n:Nat),n<=m->n<=9223372036854775807->PC Tryz.prog 163 [.av (.int .i64) (.i .i64 n)] (.av .str (.s (Lib.decDigits n))):=by
 intro m
 induction m using Nat.strongRecOn with
 | ind m ih =>
 intro n hm h1
 by_cases h:n<10
 ·exact dF n h
 refine zow Tryz.func163 cf0 fun imm0 w0=>?_
 have hn:¬(n:Int)<10:=by omega
 have hd:(n:Int).tdiv 10=((n / 10:Nat):Int):=by rw[Int.tdiv_eq_ediv_of_nonneg (by omega)];rfl
 have ht:(n:Int).tmod 10=((n % 10:Nat):Int):=by rw[Int.tmod_eq_emod_of_nonneg (by omega)];rfl
 have e:Lib.decDigits (n / 10)++Lib.decDigits (n % 10)=Lib.decDigits n:=by
  rw[Lib.decDigits.eq_1 n,dif_neg h,Lib.decDigits.eq_1 (n % 10),dif_pos (by omega)]
 have hl1:=wN (n / 10)
 have hl2:=wN (n % 10)
 obtain⟨a,ha⟩:∃a,a=n / 10:=⟨_,rfl⟩
 obtain⟨c,hc⟩:∃c,c=n % 10:=⟨_,rfl⟩
 rw[<-ha]at hd e hl1
 rw[<-hc]at ht e hl2
 simp (disch:=omega) [zz,hn,hd,ht]
 refine zcv (ih a (by omega) a (Nat.le_refl _) (by omega)) ?_
 simp (disch:=omega) [zz,ht]
 refine zcv (dF c (by omega)) ?_
 simp (disch:=omega) [zz,e,Tryz.f163]
 omega
theorem zdV (l:List (List UInt8)) (hn:l.length<=9223372036854775807) (hl:(k9 l).length<=10000000000):PC Tryz.prog 109 [.av (.slice 9) (.sl .no (qG l))] (.av .str (.s (k9 l))):=by
 refine zow Tryz.func109 cf0 fun imm0 w0=>?_
 simp (disch:=omega) [zz]
 refine AT.loop' (α:=Nat) (fun k=>St.of [(3,.av .str (.s (k9 (l.take k)))),(6,.av (.slice 9) (.sl .no (qG l))),(7,.av (.int .i64) (.i .i64 l.length)),(8,.av (.int .i64) (.i .i64 k))] [] (fun _=>0) [])
  (fun k=>k<=l.length) (fun k=>l.length-k) 0 ?_ ?_ ?_
 ·apply Le.of<;>simp[le9,k9]<;>try omega
 ·simp
 rintro k hk KL hN hE
 refine zrd cf0 ?_
 by_cases hlt:k<l.length
 ·have hlt':(k:Int)<l.length:=by omega
  have hg:=KC l k hlt
  have hst:k9 (l.take (k+1))=k9 (l.take k)++(Lib.decDigits l[k].length++58::l[k]):=by
   rw[List.take_succ_eq_append_getElem hlt,U6]
   simp[k9,yR]
  have hle:=u5 l (k+1)
  rw[hst]at hle
  simp only[List.length_append,List.length_cons]at hle
  obtain⟨x,hx⟩:∃x,l[k]=x:=⟨_,rfl⟩
  rw[hx]at hg hst hle
  simp (disch:=omega) [zz,hlt',hlt,hg]
  refine zcv (zia x.length x.length (Nat.le_refl _) (by omega)) ?_
  simp (disch:=omega) [zz]
  refine⟨by omega,by omega,by omega,?_⟩
  refine hN _ (k+1) ?_ (by omega) (by omega)
  apply Le.of<;>simp[le9,hst]<;>try omega
 have hkn:k=l.length:=by omega
 have hlt':¬(k:Int)<l.length:=by omega
 simp (disch:=omega) [zz,hlt']
 refine hE _ _ (by simp) ?_
 have h1:l.take k=l:=List.take_of_length_le (by omega)
 simp (disch:=omega) [zz,h1,Tryz.f109]
def tkX (m:Nat):Nat->Tok
 | 0=>tkW 51 m
 | k+1=>.own 74 (k+1)
theorem PR (t:qD) (ht:TrP t) (hd:TrD t) (hr2:∀r∈t.reads,r.path.length<=1000000000) (ho2:∀r∈t.outs,r.path.length<=1000000000) (hb:qY t=0->(k9 (jK t)).length<=10000000000) :
  PC Tryz.prog 52 [.av (q8 Tryz.prog 56) (q5 t)] (wO t):=by
 refine zow Tryz.func52 cf0 fun imm0 w0=>?_
 simp (disch:=omega) [zz,q5]
 refine YE (vT t ht hr2 ho2) rfl rfl (by simp) (by simp[q9,TV.er,AV.er,AV.ers,q5]) ?_
 by_cases hc:qY t=0
 rotate_left
 ·simp (disch:=omega) [zz,hc,Tryz.f52,wO]
 obtain⟨hrl,hol⟩:=Q3 hc
 obtain⟨hd1,hd2,hd3⟩:=hd
 have hbl:=hb hc
 simp (disch:=omega) [zz,hc]
 (repeat with_reducible refine om ?_)
 refine XF (PZ t.key hd1) rfl rfl (by simp) (by simp[q9,TV.er]) ?_
 simp (disch:=omega) [zz,qE]
 (repeat with_reducible refine om ?_)
 refine XF (zed t.reads.length t.reads.length (by omega) (by omega) (by omega)) rfl rfl (by simp) (by simp[q9,TV.er,AV.er]) ?_
 simp (disch:=omega) [zz]
 (repeat with_reducible refine om ?_)
 refine AT.loop' (α:=Nat) (fun k=>St.of [(1,.loc 1 []),(3,.cst (.int .i64 0)),(5,.av (.slice 9) (.sl (tkW 51 k) (qG (t.key::Lib.itoa t.reads.length::(t.reads.take k).flatMap y7)))),(6,.av (.int .i64) (.i .i64 k))] [(1,(q8 Tryz.prog 56,q5 t))] (fun j=>if j=51 then k else 0) [])
  (fun k=>k<=t.reads.length) (fun k=>t.reads.length-k) 0 ?_ ?_ ?_
 ·apply Le.of<;>simp[le9,q5,qE,qG,tkW]<;>try omega
 ·simp
 rintro k hk KL hN hE
 obtain⟨W,hW⟩:∃W,t.key::Lib.itoa t.reads.length::(t.reads.take k).flatMap y7=W:=⟨_,rfl⟩
 have hWl:W.length=2+2*k:=by
  rw[<-hW];simp only[List.length_cons,d6,List.length_take];omega
 rw[hW]
 refine zrd cf0 ?_
 by_cases hlt:k<t.reads.length
 ·have hlt':(k:Int)<t.reads.length:=by omega
  have hg:=wC qV t.reads k hlt
  have hds:=hd2 t.reads[k] (List.getElem_mem _)
  have htk:(t.reads.take (k+1)).flatMap y7=(t.reads.take k).flatMap y7++y7 t.reads[k]:=by
   rw[List.take_succ_eq_append_getElem hlt,List.flatMap_append];simp
  obtain⟨r,hr⟩:∃r,r=t.reads[k]:=⟨_,rfl⟩
  rw[<-hr]at hg hds htk
  have hnew:qG (t.key::Lib.itoa t.reads.length::(t.reads.take (k+1)).flatMap y7)=qG W++[.s r.path,.s (if r.is then r.sum else [])]:=by
   rw[htk,<-List.cons_append,<-List.cons_append,hW,wE];rfl
  cases k with
  | zero =>
   have hlt0:(0:Int)<t.reads.length:=by omega
   cases his:r.is
   ·simp only[his,Bool.false_eq_true,if_false]at hnew
    simp (disch:=omega) [zz,hlt0,hlt,hg,q5,qE,qV,his,tkW]
    simp (disch:=omega) [zz,qQ,hWl]
    (repeat with_reducible refine om ?_)
    refine hN _ 1 ?_ (by omega) (by omega)
    apply Le.of<;>simp[le9,q5,qE,tkW,hnew]<;>try omega
   ·simp only[his,if_true]at hnew
    simp (disch:=omega) [zz,hlt0,hlt,hg,q5,qE,qV,his,tkW]
    (repeat with_reducible refine om ?_)
    refine YE (PZ r.sum hds) rfl rfl (by simp) (by simp[q9,TV.er]) ?_
    simp (disch:=omega) [zz,hlt0,hlt,hg,q5,qE,qV,tkW]
    simp (disch:=omega) [zz,qQ,hWl]
    (repeat with_reducible refine om ?_)
    refine hN _ 1 ?_ (by omega) (by omega)
    apply Le.of<;>simp[le9,q5,qE,tkW,hnew]<;>try omega
  | succ k =>
   have hlt':(k:Int)+1<t.reads.length:=by omega
   have hge:(0:Int)<=(k:Int)+1:=by omega
   cases his:r.is
   ·simp only[his,Bool.false_eq_true,if_false]at hnew
    simp (disch:=omega) [zz,hlt',hlt,hg,q5,qE,qV,his,tkW]
    (repeat with_reducible refine om ?_)
    simp (disch:=omega) [zz,qQ,hWl]
    (repeat with_reducible refine om ?_)
    refine hN _ (k+2) ?_ (by omega) (by omega)
    apply Le.of<;>simp[le9,q5,qE,tkW,hnew]<;>try omega
    all_goals (intro j;by_cases hj:j=51<;>simp[hj])
   ·simp only[his,if_true]at hnew
    simp (disch:=omega) [zz,hlt',hlt,hg,q5,qE,qV,his,tkW]
    (repeat with_reducible refine om ?_)
    refine YE (PZ r.sum hds) rfl rfl (by simp) (by simp[q9,TV.er]) ?_
    simp (disch:=omega) [zz,hlt',hlt,hg,q5,qE,qV,tkW]
    (repeat with_reducible refine om ?_)
    simp (disch:=omega) [zz,qQ,hWl]
    (repeat with_reducible refine om ?_)
    refine hN _ (k+2) ?_ (by omega) (by omega)
    apply Le.of<;>simp[le9,q5,qE,tkW,hnew]<;>try omega
    all_goals (intro j;by_cases hj:j=51<;>simp[hj])
 have hkn:k=t.reads.length:=by omega
 have hlt':¬(k:Int)<t.reads.length:=by omega
 simp (disch:=omega) [zz,hlt',q5,qE]
 refine hE _ _ (by simp) ?_
 clear hN hE
 have hWf:W=t.key::Lib.itoa t.reads.length::t.reads.flatMap y7:=by rw[<-hW,List.take_of_length_le (by omega)]
 simp (disch:=omega) [zz]
 refine AT.loop' (α:=Nat) (fun k2=>St.of [(1,.loc 1 []),(3,.cst (.int .i64 0)),(5,.av (.slice 9) (.sl (tkX k k2) (qG (W++(t.outs.take k2).flatMap yL)))),(8,.av (.int .i64) (.i .i64 k2))] [(1,(q8 Tryz.prog 56,q5 t))] (fun j=>if j=74 then k2 else if j=51 then(if k2=0 then k else k+1) else 0) [])
  (fun k2=>k2<=t.outs.length) (fun k2=>t.outs.length-k2) 0 ?_ ?_ ?_
 ·apply Le.of<;>simp[le9,q5,qE,tkX]<;>try omega
  all_goals (intro j;by_cases hj:j=74<;>by_cases hj2:j=51<;>simp[hj,hj2])
 ·simp
 rintro k2 hk2 KL2 hN hE
 obtain⟨V,hV⟩:∃V,W++(t.outs.take k2).flatMap yL=V:=⟨_,rfl⟩
 have hVl:V.length=2+2*k+2*k2:=by
  rw[<-hV,List.length_append,PE,List.length_take,hWl];omega
 rw[hV]
 refine zrd cf0 ?_
 by_cases hlt2:k2<t.outs.length
 ·have hg:=wC qS t.outs k2 hlt2
  have hds:=hd3 t.outs[k2] (List.getElem_mem _)
  have htk:(t.outs.take (k2+1)).flatMap yL=(t.outs.take k2).flatMap yL++yL t.outs[k2]:=by
   rw[List.take_succ_eq_append_getElem hlt2,List.flatMap_append];simp
  obtain⟨r,hr⟩:∃r,r=t.outs[k2]:=⟨_,rfl⟩
  rw[<-hr]at hg hds htk
  have hnew:qG (W++(t.outs.take (k2+1)).flatMap yL)=qG V++[.s r.path,.s r.sum]:=by
   rw[htk,<-List.append_assoc,hV,wE];rfl
  cases k2 with
  | zero =>
   have hlt0:(0:Int)<t.outs.length:=by omega
   cases k with
   | zero =>
    simp (disch:=omega) [zz,hlt0,hlt2,hg,q5,qF,qS,tkX,tkW]
    (repeat with_reducible refine om ?_)
    refine XF (PZ r.sum hds) rfl rfl (by simp) (by simp[q9,TV.er]) ?_
    simp (disch:=omega) [zz,qQ,hVl]
    (repeat with_reducible refine om ?_)
    refine hN _ 1 ?_ (by omega) (by omega)
    apply Le.of<;>simp[le9,q5,qF,tkX,tkW,hnew]<;>try omega
    all_goals (intro j;by_cases hj:j=74<;>by_cases hj2:j=51<;>simp[hj,hj2])
   | succ k =>
    simp (disch:=omega) [zz,hlt0,hlt2,hg,q5,qF,qS,tkX,tkW]
    (repeat with_reducible refine om ?_)
    refine XF (PZ r.sum hds) rfl rfl (by simp) (by simp[q9,TV.er]) ?_
    simp (disch:=omega) [zz,qQ,hVl]
    (repeat with_reducible refine om ?_)
    refine hN _ 1 ?_ (by omega) (by omega)
    apply Le.of<;>simp[le9,q5,qF,tkX,tkW,hnew]<;>try omega
    all_goals (intro j;by_cases hj:j=74<;>by_cases hj2:j=51<;>simp[hj,hj2])
  | succ k2 =>
   have hlt2':(k2:Int)+1<t.outs.length:=by omega
   have hge:(0:Int)<=(k2:Int)+1:=by omega
   simp (disch:=omega) [zz,hlt2',hlt2,hg,q5,qF,qS,tkX]
   (repeat with_reducible refine om ?_)
   refine XF (PZ r.sum hds) rfl rfl (by simp) (by simp[q9,TV.er]) ?_
   simp (disch:=omega) [zz,qQ,hVl]
   (repeat with_reducible refine om ?_)
   refine hN _ (k2+2) ?_ (by omega) (by omega)
   apply Le.of<;>simp[le9,q5,qF,tkX,hnew]<;>try omega
   all_goals (intro j;by_cases hj:j=74<;>by_cases hj2:j=51<;>simp[hj,hj2])
 have hkn2:k2=t.outs.length:=by omega
 have hlt2':¬(k2:Int)<t.outs.length:=by omega
 have hVf:V=jK t:=by rw[<-hV,hWf,List.take_of_length_le (by omega)];rfl
 simp (disch:=omega) [zz,hlt2',q5,qF]
 refine hE _ _ (by simp) ?_
 clear hN hE
 simp (disch:=omega) [zz,hVf]
 refine zcv (zdV (jK t) (by rw[<-hVf,hVl];omega) hbl) ?_
 simp (disch:=omega) [zz,Tryz.f52,wO,hc]
end
end Go.Proofs.YtognnffjdckalaaGreatDoor
