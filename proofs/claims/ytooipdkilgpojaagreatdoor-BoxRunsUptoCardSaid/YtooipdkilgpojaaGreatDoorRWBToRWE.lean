/- The document's own way to sort. No condition beyond each theorem's own. -/
import Derived.Test.YtooipdkilgpojaaGreatDoorRW8ToRWA
import Derived.Test.YtooipdkilgpojaaGreatDoorBR0ToKK1
import Derived.Test.YtooipdkilgpojaaGreatDoorKT6
set_option linter.unusedSimpArgs false
set_option linter.unusedVariables false
set_option linter.unusedSectionVars false
section
set_option maxRecDepth 100000
namespace Go.Proofs.YtooipdkilgpojaaGreatDoor
open Go Go.Ab
open Classical
variable [Sel] [SelPow] [SelMax]
structure InS (l c:List Txt) (i k:Nat):Prop where
 perm:c.Perm l
 il:i<c.length
 ki:k≤i
 ord:∀x y (hx:x<y) (hy:y≤i) (hk:y≠k),(c[x]'(by omega))≤(c[y]'(by omega))
structure InO (l c:List Txt) (i:Nat):Prop where
 perm:c.Perm l
 ord:∀x y (hx:x<y) (hy:y<i) (hl:y<c.length),(c[x]'(by omega))≤c[y]
theorem InO.start {l:List Txt}:InO l l 1:=⟨List.Perm.refl _,fun x y hx hy hl=>by omega⟩
theorem InO.inner {l c:List Txt} {i:Nat} (h:InO l c i) (hi:i<c.length):InS l c i i:=⟨h.perm,hi,Nat.le_refl _,fun x y hx hy hk=>h.ord x y hx (by omega) (by omega)⟩
def swp (c:List Txt) (k:Nat) (h:k<c.length):List Txt:=(c.set k (c[k-1]'(by omega))).set (k-1) c[k]
theorem zHU (c:List Txt) (k:Nat) (h:k<c.length):(swp c k h).length=c.length:=by simp[swp]
theorem zI5 {c:List Txt} {k:Nat} (h:k<c.length) (h0:0<k) (j:Nat) (hj:j<c.length):(swp c k h)[j]'(by rw[zHU];exact hj)=if j=k-1 then c[k] else if j=k then c[k-1]'(by omega) else c[j]:=by
 unfold swp
 rw[List.getElem_set]
 by_cases h1:k-1=j
 ·rw[if_pos h1,if_pos h1.symm]
 ·rw[if_neg h1,if_neg (fun e=>h1 e.symm),List.getElem_set]
  by_cases h2:k=j
  ·rw[if_pos h2,if_pos h2.symm]
  ·rw[if_neg h2,if_neg (fun e=>h2 e.symm)]
theorem InS.swap {l c:List Txt} {i k:Nat} (h:InS l c i k) (h0:0<k) (hlt:(c[k]'(by have:=h.il;have:=h.ki;omega))<c[k-1]'(by have:=h.il;have:=h.ki;omega)):InS l (swp c k (by have:=h.il;have:=h.ki;omega)) i (k-1):=by
 have hil:=h.il
 have hki:=h.ki
 have hkl:k<c.length:=by omega
 refine⟨?_,by rw[zHU];exact hil,by omega,fun x y hx hy hk=>?_⟩
 ·refine List.Perm.trans ?_ h.perm
  unfold swp
  exact List.set_set_perm (by omega) (by omega)
 ·rw[zI5 hkl h0 x (by omega),zI5 hkl h0 y (by omega),if_neg hk]
  have hle:=List.le_of_lt hlt
  by_cases y1:y=k
  ·subst y1
   rw[if_pos rfl]
   by_cases x1:x=y-1
   ·rw[if_pos x1];exact hle
   ·rw[if_neg x1,if_neg (by omega)]
    exact h.ord x (y-1) (by omega) (by omega) (by omega)
  ·rw[if_neg y1]
   by_cases x1:x=k-1
   ·rw[if_pos x1]
    exact h.ord k y (by omega) hy y1
   ·rw[if_neg x1]
    by_cases x2:x=k
    ·rw[if_pos x2]
     exact h.ord (k-1) y (by omega) hy y1
    ·rw[if_neg x2]
     exact h.ord x y hx hy y1
theorem InS.done {l c:List Txt} {i k:Nat} (h:InS l c i k) (hd:k=0∨¬(c[k]'(by have:=h.il;have:=h.ki;omega))<c[k-1]'(by have:=h.il;have:=h.ki;omega)):InO l c (i+1):=by
 have hil:=h.il
 have hki:=h.ki
 refine⟨h.perm,fun x y hx hy hl=>?_⟩
 by_cases hk:y=k
 ·subst hk
  have hn:=hd.resolve_left (by omega)
  have h1:c[y-1]'(by omega)≤c[y]:=List.not_lt.1 hn
  by_cases hx1:x=y-1
  ·subst hx1;exact h1
  ·exact List.le_trans (h.ord x (y-1) (by omega) (by omega) (by omega)) h1
 ·exact h.ord x y hx (by omega) hk
theorem InO.sorted {l c:List Txt} {i:Nat} (h:InO l c i) (hi:c.length≤i):c=kK l:=by
 have h2:=W0 l
 have hs:(kK l).Pairwise fun a b=>a≤b:=by
  have h1:=List.pairwise_mergeSort (le:=fun(a b:Txt)=>decide (a≤b)) (fun a b c h1 h2=>by simp only[decide_eq_true_eq]at *;exact List.le_trans h1 h2) (fun a b=>by simp only[Bool.or_eq_true,decide_eq_true_eq];exact List.le_total a b) l
  exact h1.imp fun h=>by simpa using h
 refine List.Perm.eq_of_pairwise (fun x y _ _ h3 h4=>List.le_antisymm h3 h4) ?_ hs (h.perm.trans h2.symm)
 exact List.pairwise_iff_getElem.2 fun x y hx hy hxy=>h.ord x y hxy (by omega) hy
theorem zIt {e rs:List Txt} {m:Nat} (h:m+1<e.length):((strs (e++rs)).set (m+1) (.s (e[m]'(by omega)))).set m (.s e[m+1])=strs (swp e (m+1) h++rs):=by
 unfold swp
 rw[Z6,Z6,List.set_append_left _ _ (by rw[qX];exact h),List.set_append_left _ _ (by rw[List.length_set,qX];omega)]
 congr 1
 simp only[strs,List.map_set,Nat.add_sub_cancel]
abbrev zIf:Cfg:=⟨fun _=>false,fun n=>n==6||n==47||n==1000008||n==2000046⟩
noncomputable def soO (cap:Nat) (c rs:List Txt):HObj:=.var (.arr cap 9) (.agg (strs (c++rs)))
set_option maxHeartbeats 16000000 in
theorem zHu (l:List Txt) (hl:l.length≤1000000):q7 Tryz.prog 205 [.av (.slice 9) (.sl .no (strs l))] [] fun r H'=>∃T cap rs,r=.av (.slice 9) (.msl T 9 0 l.length cap)∧l.length+rs.length=cap∧Ab.HSub [(T,soO cap (kK l) rs)] H':=by
 refine zov Tryz.func205 zIf fun imm0 w0=>?_
 simp (disch:=omega) [zz]
 intro b0
 refine⟨⟨by omega,by omega⟩,fun hl0=>?_,fun hl0 b cap hb hcap=>?_⟩
 ·subst hl0
  refine AT.loop' (α:=Nat) (fun _=>St.of [(3,.av (.slice 9) (.msl b0 9 0 0 0)),(4,.av (.int .i64) (.i .i64 1))] [] (fun _=>0) [(b0,.var (.arr 0 9) (.agg []))]) (fun _=>True) (fun _=>0) 0 ?_ ?_ ?_
  ·apply Le.of<;>simp[qU,qG,strs]<;>try omega
  ·trivial
  rintro k-KL hN hE
  refine qM (cf:=zIf) laid mixed _ _ _ (by kernel_rfl) ?_
  simp (disch:=omega) [zz]
  refine hE _ _ (by simp) ?_
  simp (disch:=omega) [zz,Tryz.f205]
  refine⟨b0,0,⟨rfl,rfl⟩,[],rfl,?_⟩
  have:soO 0 (kK []) []=.var (.arr 0 9) (.agg []):=by simp[soO,kK,strs]
  rw[this]
  exact HSub.refl _
 ·obtain⟨T,hT⟩:∃T,T=b:=⟨_,rfl⟩
  obtain⟨rs,hrs⟩:∃rs:List Txt,rs=List.replicate (cap-l.length) []:=⟨_,rfl⟩
  have hrl:l.length+rs.length=cap:=by rw[hrs,List.length_replicate];omega
  have hrs2:List.replicate (cap-l.length) (AV.s [])=strs rs:=by rw[hrs,zyk]
  rw[hrs2,←hT]
  clear hrs
  have hrs:strs l++strs rs=strs (l++rs):=(Z6 _ _).symm
  refine AT.loop' (α:=Nat × List Txt) (fun x=>St.of [(3,.av (.slice 9) (.msl T 9 0 l.length cap)),(4,.av (.int .i64) (.i .i64 x.1))] [] (fun _=>0) [(T,soO cap x.2 rs)])
   (fun x=>1≤x.1∧InO l x.2 x.1) (fun x=>l.length+1-x.1) (1,l) ?_ ?_ ?_
  ·apply Le.of<;>simp[qU,qG,soO,hrs]<;>try omega
  ·exact⟨by simp,InO.start⟩
  rintro⟨i,c⟩ ⟨h1,hio⟩ KL hN hE
  simp only at h1 hio hN
  have hcl:c.length=l.length:=hio.perm.length_eq
  refine qM (cf:=zIf) laid mixed _ _ _ (by kernel_rfl) ?_
  by_cases hlt:i<l.length
  ·have hlt':(i:Int)<l.length:=by omega
   simp (disch:=omega) [zz,hlt']
   refine AT.loop' (α:=Nat × List Txt) (fun x=>St.of [(3,.av (.slice 9) (.msl T 9 0 l.length cap)),(4,.av (.int .i64) (.i .i64 i)),(5,.av (.int .i64) (.i .i64 x.1))] [] (fun _=>0) [(T,soO cap x.2 rs)])
    (fun x=>InS l x.2 i x.1) (fun x=>x.1) (i,c) ?_ ?_ ?_
   ·apply Le.of<;>simp[qU,qG,soO]<;>try omega
   ·exact hio.inner (by omega)
   rintro⟨k,e⟩ hin KL2 hN2 hE2
   simp only at hin hN2
   have hel:e.length=l.length:=hin.perm.length_eq
   have hil:=hin.il
   have hki:=hin.ki
   refine qM (cf:=zIf) laid mixed _ _ _ (by kernel_rfl) ?_
   by_cases h0:k=0
   ·subst h0
    simp (disch:=omega) [zz]
    refine hE2 _ _ (by simp) ?_
    simp (disch:=omega) [zz]
    refine hN _ (i+1,e) ?_ ⟨by simp only;omega,hin.done (.inl rfl)⟩ (by simp only;omega)
    apply Le.of<;>simp[qU,qG,soO]<;>try omega
   obtain⟨m,rfl⟩:∃m,k=m+1:=⟨k-1,by omega⟩
   have hk0:(0:Int)<(m:Int)+1:=by omega
   have hk1:(m:Int)+1<l.length:=by omega
   have hk2:(m:Int)<l.length:=by omega
   have hk3:(0:Int)≤(m:Int)+1:=by omega
   have hm1:m+1<e.length:=by omega
   have hm0:m<e.length:=by omega
   have hg1:(strs (e++rs))[m+1]?=some (.s e[m+1]):=by rw[yH (e++rs) (m+1) (by simp;omega),List.getElem_append_left hm1]
   have hg2:(strs (e++rs))[m]?=some (.s e[m]):=by rw[yH (e++rs) m (by simp;omega),List.getElem_append_left hm0]
   have hbl:Op.bytesLess e[m+1] e[m]=decide (e[m+1]<e[m]):=Go.Proofs.bytesLess_eq _ _
   have hcc:(l.length:Int)≤cap:=by omega
   by_cases hb:e[m+1]<e[m]
   ·have hb':Op.bytesLess e[m+1] e[m]=true:=by rw[hbl];simpa using hb
    have hsw:=zIt (rs:=rs) hm1
    simp (disch:=omega) [zz,hk0,hk1,hk2,hk3,hg1,hg2,hb',soO]
    refine jW.of [0,1,2,3,4,5,6,7,8,9,10,11,12,13,14,15,16,17] [2,3,4] (by kernel_rfl) ?_
    simp (disch:=omega) [zz,hk0,hk1,hk2,hk3,hg1,hg2]
    (repeat with_reducible refine om ?_)
    refine hN2 _ (m,swp e (m+1) hm1) ?_ (hin.swap (by omega) hb) (by simp only;omega)
    apply Le.of<;>simp[qU,qG,soO,hsw]<;>try omega
   ·have hb':Op.bytesLess e[m+1] e[m]=false:=by rw[hbl];simpa using hb
    simp (disch:=omega) [zz,hk0,hk1,hk2,hk3,hg1,hg2,hb',soO]
    (repeat with_reducible refine om ?_)
    refine hE2 _ _ (by simp) ?_
    simp (disch:=omega) [zz]
    refine hN _ (i+1,e) ?_ ⟨by simp only;omega,hin.done (.inr hb)⟩ (by simp only;omega)
    apply Le.of<;>simp[qU,qG,soO]<;>try omega
  ·have hlt':¬(i:Int)<l.length:=by omega
   have hso:=hio.sorted (by omega)
   simp (disch:=omega) [zz,hlt']
   refine hE _ _ (by simp) ?_
   simp (disch:=omega) [zz,Tryz.f205]
   refine⟨T,cap,⟨rfl,rfl⟩,rs,hrl,?_⟩
   rw[←hso]
   have:(soO cap c rs).er=soO cap c rs:=by simp[soO,HObj.er_var,AV.erk,strs,AV.erks_eq,Function.comp_def]
   rw[this]
   exact HSub.refl _
theorem zHH (l:List Txt) (hl:l.length≤1000000):PC Tryz.prog 205 [.av (.slice 9) (.sl .no (strs l))] (.av (.slice 9) (.sl .no (strs (kK l)))):=by
 have hsl:=ZO l
 refine q7.freeze (R:=fun r H'=>∃T cap rs,r=.av (.slice 9) (.msl T 9 0 l.length cap)∧l.length+rs.length=cap∧H'=[(T,soO cap (kK l) rs)]) laid ?_ ?_
 ·exact q7.sub (zHu l hl) fun r H' ⟨T,cap,rs,h1,h2,h3⟩ _=>⟨_,h3,T,cap,rs,h1,h2,rfl⟩
 ·rintro r H' ⟨T,cap,rs,rfl,hcap,rfl⟩ _
  left
  refine⟨T,cap,9,_,[],List.Perm.refl _,?_,rfl⟩
  simp only[zho,fzA]
  rw[if_pos ⟨trivial,trivial,by omega,by omega⟩,List.drop_zero,Z6,List.take_left' (by simp[strs,hsl])]
theorem zI7 {l:List Txt} {M:Nat} (h:∀x∈l,x.length≤M):(zfi l).length≤l.length*(M+1):=by
 unfold zfi
 induction l with
 | nil=>simp
 | cons x r ih =>
  have h1:=ih fun y hy=>h y (by simp[hy])
  have h2:=h x (by simp)
  rw[List.flatMap_cons,List.length_append,List.length_append,List.length_singleton,List.length_cons,Nat.add_mul]
  omega
structure zHX (L:List Txt):Prop where
 n:L.length≤65537
 e:∀x∈L,x.length≤65536
theorem zGK {buf:Txt} (h:buf.length≤65536):zHX (z7 buf):=by
 have hll:=ZE buf
 refine⟨by omega,fun x hx=>?_⟩
 rw[zy7]at hx
 have:=zxK buf x hx
 omega
theorem zHX.whole {L:List Txt} (h:zHX L):(zfi L).length≤1000000000000:=by
 have h1:=zI7 h.e
 have h2:=Nat.mul_le_mul_right (65536+1) h.n
 omega
theorem zHj (buf:Txt) (hb:buf.length≤65536):PC Tryz.prog 162 [.av .str (.s wP),.av .str (.s buf)] (.av .str (.s (zfi (kK (z7 buf))))):=by
 have hL:=zGK hb
 have hrl:=zyi buf (by omega)
 obtain⟨L,hLL⟩:∃L,L=z7 buf:=⟨_,rfl⟩
 rw[←hLL]at hL hrl ⊢
 have hsl:=ZO L
 have hs:=zHH L (by have:=hL.n;omega)
 have hB:zHX (kK L):=⟨by rw[hsl];exact hL.n,fun x hx=>hL.e x ((W0 L).mem_iff.1 hx)⟩
 have hw:=zGE (kK L) (by have:=hB.n;omega) hB.whole
 refine zow Tryz.func162 cf0 fun imm0 w0=>?_
 simp (disch:=omega) [zz]
 refine zcv hrl ?_
 simp (disch:=omega) [zz,wP]
 refine zcv hs ?_
 simp (disch:=omega) [zz]
 refine zcv hw ?_
 simp (disch:=omega) [zz,Tryz.f162]
theorem zH0 (buf:Txt) (hb:buf.length≤65536):PC Tryz.prog 162 [.av .str (.s kY),.av .str (.s buf)] (.av .str (.s (Lib.itoa (z7 buf).length++[10]))):=by
 have hL:=zGK hb
 have hrl:=zyi buf (by omega)
 obtain⟨L,hLL⟩:∃L,L=z7 buf:=⟨_,rfl⟩
 rw[←hLL]at hL hrl ⊢
 have hn:=hL.n
 have hd:=zGI L.length L.length (Nat.le_refl _) (by omega)
 have hle:=zH9 L.length
 have hit:Lib.itoa (L.length:Int)=Lib.decDigits L.length:=by unfold Lib.itoa;rw[if_neg (by omega)];simp
 rw[hit]
 refine zow Tryz.func162 cf0 fun imm0 w0=>?_
 simp (disch:=omega) [zz]
 refine zcv hrl ?_
 simp (disch:=omega) [zz,kY,qX]
 refine zcv hd ?_
 simp (disch:=omega) [zz]
 (repeat with_reducible refine om ?_)
 simp (disch:=omega) [zz,Tryz.f162]
def unq:Option Txt→List Txt→List Txt
 | _,[]=>[]
 | p,x::r=>if p=some x then unq (some x) r else x::unq (some x) r
theorem zHo:∀(l:List Txt) (x:Txt),kF (x::l)=x::unq (some x) l
 | [],x=>rfl
 | y::l,x=>by
  have ih:=zHo l y
  rw[kF,ih,unq]
  by_cases h:x=y
  ·subst h;simp
  ·rw[if_neg h,if_neg (by simpa using h)]
theorem zHZ (l:List Txt):kF l=unq none l:=by
 cases l with
 | nil=>rfl
 | cons x r=>rw[zHo,unq,if_neg (by simp)]
def zGU (l:List Txt) (k:Nat):Option Txt:=if k=0 then none else l[k-1]?
theorem zHV:∀(l:List Txt) (p:Option Txt),(unq p l).length≤l.length∧∀x∈unq p l,x∈l
 | [],p=>⟨Nat.le_refl _,fun x h=>h⟩
 | y::l,p=>by
  obtain⟨h1,h2⟩:=zHV l (some y)
  rw[unq]
  split
  ·exact⟨by simp only[List.length_cons];omega,fun x hx=>by simp[h2 x hx]⟩
  ·refine⟨by simp only[List.length_cons];omega,fun x hx=>?_⟩
   rcases List.mem_cons.1 hx with rfl|hx
   ·simp
   ·simp[h2 x hx]
abbrev zIx:Cfg:=⟨fun _=>false,fun _=>false⟩
set_option maxHeartbeats 8000000 in
theorem zH8 (buf:Txt) (hb:buf.length≤65536):PC Tryz.prog 162 [.av .str (.s y4),.av .str (.s buf)] (.av .str (.s (zfi (kF (z7 buf))))):=by
 have hL:=zGK hb
 have hrl:=zyi buf (by omega)
 obtain⟨L,hLL⟩:∃L,L=z7 buf:=⟨_,rfl⟩
 rw[←hLL]at hL hrl ⊢
 rw[zHZ]
 obtain⟨s1,s2⟩:=zHV L none
 have hB:zHX (unq none L):=⟨by have:=hL.n;omega,fun x hx=>hL.e x (s2 x hx)⟩
 have hw:=zGE (unq none L) (by have:=hB.n;omega) hB.whole
 have hn:=hL.n
 obtain⟨U,hU⟩:∃U,U=unq none L:=⟨_,rfl⟩
 rw[←hU]at hw ⊢
 refine zow Tryz.func162 zIx fun imm0 w0=>?_
 simp (disch:=omega) [zz]
 refine zcv hrl ?_
 simp (disch:=omega) [zz,y4]
 refine AT.loop' (α:=Nat × List Txt) (fun x=>St.of [(5,.av (.slice 9) (.sl .no (strs L))),(6,.av (.slice 9) (.sl (tkK 46 x.2.length) (strs x.2))),(7,.av (.int .i64) (.i .i64 x.1))] [] (fun j=>if j=46 then x.2.length else 0) [])
  (fun x=>x.1≤L.length∧x.2.length≤x.1∧x.2++unq (zGU L x.1) (L.drop x.1)=U) (fun x=>L.length-x.1) (0,[]) ?_ ?_ ?_
 ·apply Le.of<;>simp[qU,qG,tkK,strs]<;>try omega
 ·exact⟨by simp,by simp,by simp[zGU,hU]⟩
 rintro⟨k,O⟩ ⟨hk,hO,hu⟩ KL hN hE
 simp only at hk hO hu hN
 refine qM (cf:=zIx) laid mixed _ _ _ (by kernel_rfl) ?_
 by_cases hlt:k<L.length
 ·have hlt':(k:Int)<L.length:=by omega
  have hg:=yH L k hlt
  have hdk:L.drop k=L[k]::L.drop (k+1):=List.drop_eq_getElem_cons hlt
  have hpv:zGU L (k+1)=some L[k]:=by unfold zGU;rw[if_neg (by omega),Nat.add_sub_cancel];exact List.getElem?_eq_getElem hlt
  rw[hdk,unq]at hu
  obtain⟨q,hq⟩:∃q,q=L[k]:=⟨_,rfl⟩
  rw[←hq]at hg hu hpv
  cases k with
  | zero =>
   rw[if_neg (by simp[zGU])]at hu
   cases O with
   | nil =>
    simp (disch:=omega) [zz,hlt,hlt',hg,qX,tkK]
    simp (disch:=omega) [zz,wB]
    (repeat with_reducible refine om ?_)
    refine hN _ (1,[q]) ?_ ⟨by simp only;omega,by simp,by rw[hpv];simpa using hu⟩ (by simp only;omega)
    apply Le.of<;>simp[qU,qG,tkK,strs]<;>try omega
   | cons y O =>
    simp only[List.length_cons]at hO
    simp (disch:=omega) [zz,hlt,hlt',hg,qX,tkK,strs,←hq]
    simp (disch:=omega) [zz,wB]
    (repeat with_reducible refine om ?_)
    refine hN _ (1,(y::O)++[q]) ?_ ⟨by simp only;omega,by simp;omega,by rw[hpv];simpa using hu⟩ (by simp only;omega)
    apply Le.of<;>simp[qU,qG,tkK,strs]<;>try omega
    all_goals (intro j;by_cases hj:j=46<;>simp[hj])
  | succ k =>
   have hk1:k<L.length:=by omega
   have hg2:=yH L k hk1
   have hkk:(k:Int)<L.length:=by omega
   have hk0:(0:Int)≤(k:Int):=by omega
   have hlt2:(k:Int)+1<L.length:=by omega
   have hk3:(0:Int)≤(k:Int)+1:=by omega
   have hne:¬(k:Int)+1=0:=by omega
   have hpk:zGU L (k+1)=some L[k]:=by unfold zGU;rw[if_neg (by omega),Nat.add_sub_cancel];exact List.getElem?_eq_getElem hk1
   obtain⟨z,hz⟩:∃z,z=L[k]:=⟨_,rfl⟩
   rw[←hz]at hg2 hpk
   rw[hpk]at hu
   by_cases hzq:q=z
   ·rw[if_pos (by rw[hzq])]at hu
    simp (disch:=omega) [zz,hlt,hlt2,hk3,hkk,hk0,hne,hg,hg2,hzq,qX]
    (repeat with_reducible refine om ?_)
    refine hN _ (k+2,O) ?_ ⟨by simp only;omega,by simp only;omega,by rw[hpv];exact hu⟩ (by simp only;omega)
    apply Le.of<;>simp[qU,qG,qX]<;>try omega
   ·rw[if_neg (by intro e;exact hzq (Option.some.inj e).symm)]at hu
    simp (disch:=omega) [zz,hlt,hlt2,hk3,hkk,hk0,hne,hg,hg2,hzq,qX]
    (repeat with_reducible refine om ?_)
    cases O with
    | nil =>
     simp (disch:=omega) [zz,hlt,hlt2,hk3,hg,qX,tkK]
     simp (disch:=omega) [zz,wB]
     (repeat with_reducible refine om ?_)
     refine hN _ (k+2,[q]) ?_ ⟨by simp only;omega,by simp,by rw[hpv];simpa using hu⟩ (by simp only;omega)
     apply Le.of<;>simp[qU,qG,tkK,strs]<;>try omega
    | cons y O =>
     simp only[List.length_cons]at hO
     simp (disch:=omega) [zz,hlt,hlt2,hk3,hg,qX,tkK,strs,←hq]
     simp (disch:=omega) [zz,wB]
     (repeat with_reducible refine om ?_)
     refine hN _ (k+2,(y::O)++[q]) ?_ ⟨by simp only;omega,by simp;omega,by rw[hpv];simpa using hu⟩ (by simp only;omega)
     apply Le.of<;>simp[qU,qG,tkK,strs]<;>try omega
     all_goals (intro j;by_cases hj:j=46<;>simp[hj])
 ·have hlt':¬(k:Int)<L.length:=by omega
  rw[List.drop_eq_nil_of_le (by omega),unq,List.append_nil]at hu
  simp (disch:=omega) [zz,hlt',qX]
  refine hE _ _ (by simp) ?_
  simp (disch:=omega) [zz,hu]
  refine zcv hw ?_
  simp (disch:=omega) [zz,Tryz.f162]
abbrev zIw:Cfg:=⟨fun _=>false,fun n=>n==56⟩
set_option maxHeartbeats 16000000 in
theorem zGX (buf:Txt) (hb:buf.length≤65536):PC Tryz.prog 162 [.av .str (.s kV),.av .str (.s buf)] (.av .str (.s (buf.map upB))):=by
 have hrl:=zyi buf (by omega)
 unfold PC
 refine q7.sub (R:=fun r H'=>r=.av .str (.s (buf.map upB))) ?_ (fun r H' hr _=>⟨[],HSub.of_sub (List.nil_sublist _),hr,rfl⟩)
 refine zov Tryz.func162 zIw fun imm0 w0=>?_
 simp (disch:=omega) [zz]
 refine zcv hrl ?_
 simp (disch:=omega) [zz,kV]
 intro q cap hcap
 have hbl:(buf.length:Int)≤65536:=by omega
 refine AT.loop' (α:=Nat) (fun k=>St.of [(8,.av (.slice 5) (.msl q 5 0 buf.length cap)),(9,.av (.int .i64) (.i .i64 k))] [] (fun _=>0) [(q,.var (.arr cap 5) (.agg (bys (uP buf k)++List.replicate (cap-buf.length) (.i .u8 0))))])
  (fun k=>k≤buf.length) (fun k=>buf.length-k) 0 ?_ ?_ ?_
 ·apply Le.of<;>simp[qU,qG,bys,uP]
 ·omega
 rintro k hk KL hN hE
 refine qM (cf:=zIw) laid mixed _ _ _ (by kernel_rfl) ?_
 by_cases hlt:k<buf.length
 ·have hlt':(k:Int)<buf.length:=by omega
  have hul:=zka buf k
  have hg:(bys (uP buf k)++List.replicate (cap-buf.length) (AV.i .u8 0))[k]?=some (.i .u8 buf[k].toNat):=by
   rw[List.getElem?_append_left (by simp[hul];exact hlt),bys,List.getElem?_map,zcY hlt];rfl
  have hst:∀c:UInt8,(bys (uP buf k)++List.replicate (cap-buf.length) (AV.i .u8 0)).set k (.i .u8 c.toNat)=bys ((uP buf k).set k c)++List.replicate (cap-buf.length) (.i .u8 0):=by
   intro c
   rw[List.set_append_left _ _ (by simp[hul];exact hlt),bys,bys,List.map_set]
  have hnx:=zhx hlt
  have hsame:¬(97≤buf[k].toNat∧buf[k].toNat≤122)→uP buf (k+1)=uP buf k:=by
   intro hn
   rw[←hnx]
   have:upB buf[k]=buf[k]:=by unfold upB;rw[if_neg hn]
   rw[this]
   have hgt:=List.getElem?_eq_some_iff.1 (zcY hlt)
   obtain⟨h9,h8⟩:=hgt
   rw[←h8]
   exact List.set_getElem_self _
  have hup:(97≤buf[k].toNat∧buf[k].toNat≤122)→(upB buf[k]).toNat=buf[k].toNat-32:=by
   intro hn
   unfold upB;rw[if_pos hn]
   rw[UInt8.toNat_sub_of_le _ _ (by rw[UInt8.le_iff_toNat_le];show 32≤_;omega)];rfl
  obtain⟨c,hc⟩:∃c,c=buf[k]:=⟨_,rfl⟩
  rw[←hc]at hg hnx hsame hup
  have hc8:c.toNat<256:=c.toNat_lt
  have hcap':(k:Int)<cap:=by omega
  by_cases hlo:97≤c.toNat
  ·have hlo':(97:Int)≤c.toNat:=by omega
   by_cases hhi:c.toNat≤122
   ·have hhi':(c.toNat:Int)≤122:=by omega
    have hw:IntKind.u8.wrap ((c.toNat:Int)-32)=((upB c).toNat:Int):=by
     rw[hup ⟨hlo,hhi⟩]
     simp only[IntKind.wrap,IntKind.signed,IntKind.bits];simp;omega
    simp (disch:=omega) [zz,hlt',hlt,hg,hlo',hhi',hw,hst,hnx]
    (repeat with_reducible refine om ?_)
    refine hN _ (k+1) ?_ (by omega) (by omega)
    apply Le.of<;>simp[qU,qG,zX]<;>try omega
   ·have hhi':¬(c.toNat:Int)≤122:=by omega
    have hs:=hsame (by omega)
    simp (disch:=omega) [zz,hlt',hlt,hg,hlo',hhi']
    (repeat with_reducible refine om ?_)
    refine hN _ (k+1) ?_ (by omega) (by omega)
    apply Le.of<;>simp[qU,qG,hs]<;>try omega
  ·have hlo':¬(97:Int)≤c.toNat:=by omega
   have hs:=hsame (by omega)
   simp (disch:=omega) [zz,hlt',hlt,hg,hlo']
   (repeat with_reducible refine om ?_)
   refine hN _ (k+1) ?_ (by omega) (by omega)
   apply Le.of<;>simp[qU,qG,hs]<;>try omega
 ·have hkl:k=buf.length:=by omega
  subst hkl
  have hlt':¬(buf.length:Int)<buf.length:=by omega
  have hfin:uP buf buf.length=buf.map upB:=by simp[uP]
  have hbo:bytesOf ((bys (buf.map upB)++List.replicate (cap-buf.length) (AV.i .u8 0)).take buf.length)=some (buf.map upB):=by
   rw[List.take_left' (by simp)];exact WH _
  simp (disch:=omega) [zz,hlt']
  refine hE _ _ (by simp) ?_
  simp (disch:=omega) [zz,hfin,hbo,Tryz.f162]
  try omega
theorem zI3 {kn:List KnV} {p:Txt} {s:StV} (hkd:∀k∈kn,k.data.length≤65536):(y7 kn p s).2.data.length≤65536:=by
 unfold y7
 split
 ·simp[kn0]
 ·cases hf:zQ kn p with
  | none=>simp[kn0]
  | some k=>exact hkd k (KP hf).1
abbrev zGr (s:StV) (env:List (Txt × Txt)) (kn:List KnV) (line:Txt) (ws:List Txt):List TV:=[.av StT (K0 s),.av (.slice 85) (zS env),.av (.slice 57) (zL kn),.av .str (.s line),.av (.slice 9) (.sl .no (strs ws))]
structure zGy (s:StV) (env:List (Txt × Txt)) (kn:List KnV) (line:Txt):Prop where
 inv:gR s
 buf:s.buf.length≤65536
 kl:kn.length≤1000000000
 dat:∀k∈kn,k.data.length≤65536
 el:env.length≤1000000000
 val:∀x∈env,x.2.length≤1000000000
 ll:line.length≤1000000
 wr:s.wrote.length≤1000000
abbrev zGt:Cfg:=⟨fun _=>false,fun n=>n==145||n==1000035⟩
set_option maxHeartbeats 16000000 in
theorem zGJ (env:List (Txt × Txt)) (kn:List KnV) (line w arg:Txt) (s:StV) (hw:w=zZ∨w=w8) (h:zGy s env kn line) :
  PC Tryz.prog 118 (zGr s env kn line [w,arg]) (.av StT (K0 (xT env kn line [w,arg] s))):=by
 have hask:=zHQ s kn arg (by have:=h.inv.len;omega) h.kl
 unfold zGP at hask
 have hab:=zGM kn arg s
 have hb:=h.buf
 have hdat:=zI3 (p:=arg) (s:=s) h.dat
 have h5:∀l:List Txt,AV.ers (strs l)=strs l:=fun l=>zjB l
 have h6:∀l:List DoV,(zGl l).er=zGl l:=zGp
 have hks:(zL kn).er=zL kn:=YO kn
 have hk0:s.stop.kind=0:=by rw[h.inv.stop];rfl
 have hv:xT env kn line [w,arg] s=(if (y7 kn arg s).1.stop.kind≠0 then(y7 kn arg s).1
   else if (y7 kn arg s).2.is=true then yP (y7 kn arg s).2.data (y7 kn arg s).1
   else if w=zZ then yZ 10 (y7 kn arg s).1 else(y7 kn arg s).1):=by
  unfold xT;simp only[List.getD_cons_zero,List.getD_cons_succ];rw[if_pos hw]
 obtain⟨FIN,hFIN⟩:∃F,F=xT env kn line [w,arg] s:=⟨_,rfl⟩
 rw[←hFIN]at hv ⊢
 obtain⟨V,hV⟩:∃V,V=K0 FIN:=⟨_,rfl⟩
 rw[←hV]
 obtain⟨R,hR⟩:∃R,R=y7 kn arg s:=⟨_,rfl⟩
 simp only[←hR]at hask hab hdat hv
 obtain⟨s1,k1⟩:=R
 simp only at hask hab hdat hv
 have hs2:∀x y:Txt,strs [x,y]=[.s x,.s y]:=fun _ _=>rfl
 have hbl1:s1.buf.length≤65536:=by rw[hab];exact hb
 have hadd:=zGu s1 k1.data (by omega) (by omega)
 have hf:=zGv s1 10
 have he1:=zGn s1
 have he2:=zGn (yZ 10 s1)
 have he3:=zGn (yP k1.data s1)
 refine zow Tryz.func118 zGt fun imm0 w0=>?_
 rcases hw with rfl|rfl
 ·simp (disch:=omega) [zz,K0,hs2,zZ]
  (repeat with_reducible refine om ?_)
  refine jC hask rfl rfl (by simp) (by simp[qS,coC,TV.er,AV.er,AV.ers,K0,jG,h5,h6,hks]) ?_
  simp (disch:=omega) [zz,K0,jG,zH]
  (repeat with_reducible refine om ?_)
  by_cases hk:s1.stop.kind=0
  rotate_left
  ·rw[if_pos hk]at hv
   simp (disch:=omega) [zz,hk,K0,jG]
   simp (disch:=omega) [zz,hV,hv,hk,K0,jG,h5,h6,AV.er,AV.ers,Tryz.f118]
  rw[if_neg (by simp[hk])]at hv
  by_cases hk1:k1.is=true
  ·rw[if_pos hk1]at hv
   simp (disch:=omega) [zz,hk,hk1,K0,jG]
   refine qL hadd rfl rfl (by simp) (by simp[qS,coC,TV.er,AV.er,AV.ers,K0,jG,h5,h6,hk]) ?_
   simp (disch:=omega) [zz,hV,hv,he3,Tryz.f118]
  rw[if_neg hk1]at hv
  have hk1':k1.is=false:=by simpa using hk1
  rw[if_pos rfl]at hv
  simp (disch:=omega) [zz,hk,hk1',hs2,zZ,K0,jG]
  refine qL hf rfl rfl (by simp) (by simp[qS,coC,TV.er,AV.er,AV.ers,K0,jG,h5,h6,hk]) ?_
  simp (disch:=omega) [zz,hV,hv,he2,Tryz.f118]
 ·simp (disch:=omega) [zz,K0,hs2,w8]
  (repeat with_reducible refine om ?_)
  refine jC hask rfl rfl (by simp) (by simp[qS,coC,TV.er,AV.er,AV.ers,K0,jG,h5,h6,hks]) ?_
  simp (disch:=omega) [zz,K0,jG,zH]
  (repeat with_reducible refine om ?_)
  by_cases hk:s1.stop.kind=0
  rotate_left
  ·rw[if_pos hk]at hv
   simp (disch:=omega) [zz,hk,K0,jG]
   simp (disch:=omega) [zz,hV,hv,hk,K0,jG,h5,h6,AV.er,AV.ers,Tryz.f118]
  rw[if_neg (by simp[hk])]at hv
  by_cases hk1:k1.is=true
  ·rw[if_pos hk1]at hv
   simp (disch:=omega) [zz,hk,hk1,K0,jG]
   refine qL hadd rfl rfl (by simp) (by simp[qS,coC,TV.er,AV.er,AV.ers,K0,jG,h5,h6,hk]) ?_
   simp (disch:=omega) [zz,hV,hv,he3,Tryz.f118]
  rw[if_neg hk1]at hv
  have hk1':k1.is=false:=by simpa using hk1
  rw[if_neg (by decide)]at hv
  simp (disch:=omega) [zz,hk,hk1',hs2,w8,K0,jG]
  simp (disch:=omega) [zz,hV,hv,hk,K0,jG,h5,h6,AV.er,AV.ers,Tryz.f118]
end Go.Proofs.YtooipdkilgpojaaGreatDoor
end
