/- path.May, path.Under. No condition beyond each theorem's own. -/
import Derived.Test.YtooipdkilgpojaaGreatDoorP0ToP7
import Derived.Test.YtooipdkilgpojaaGreatDoorB0
import Derived.Test.YtooipdkilgpojaaGreatDoorAbXToY
set_option linter.unusedSimpArgs false
set_option linter.unusedVariables false
set_option linter.unusedSectionVars false
section
set_option maxRecDepth 100000
namespace Go.Proofs.YtooipdkilgpojaaGreatDoor
open Go Go.Ab
open Classical
variable [Sel]
@[simp] theorem zkj:qZ Tryz.prog 111=true:=by kernel_rfl
@[simp] theorem zq3:z8 Tryz.prog (.func 111)=false:=q9 zkj
@[simp] theorem zlt:qZ Tryz.prog 141=true:=by kernel_rfl
@[simp] theorem zqM:z8 Tryz.prog (.func 141)=false:=q9 zlt
def yV (l:List UInt8):Bool:=decide ((qT 47 l).length≤16)&&(qT 47 l).all Q0
theorem kU (c:UInt8):∀l x,x∈qT c l→x.length≤l.length
 | [],x,h=>by simp[qT]at h;simp[h]
 | b::l,x,h=>by
  unfold qT at h
  split at h
  ·rcases List.mem_cons.1 h with rfl|h
   ·simp
   ·have:=kU c l x h;simp;omega
  ·cases hs:qT c l with
   | nil=>exact absurd hs (JJ c l)
   | cons y r =>
    rw[hs]at h
    rcases List.mem_cons.1 h with rfl|h
    ·have:=kU c l y (by rw[hs];simp);simp;omega
    ·have:=kU c l x (by rw[hs];simp[h]);simp;omega
abbrev ziU:Cfg:=⟨fun n=>n==2||n==3,fun _=>false⟩
def zrP (l:List UInt8) (b2 b3:Nat) (k:Nat) (H:q8):Prop :=
 k≤16∧(∀i,i<k→∀x,(qT 47 l)[i]?=some x→Q0 x=true)∧H=[(b3,.var (.int .i64) (.i .i64 k)),(b2,.var .bool (.b false))]
def zrU (l:List UInt8) (b2 b3:Nat) (r:Loop) (H:q8):Prop :=
 yV l=false∧r.state=.done∧r.pending=some .ret∧∃n,H=[(b3,.var (.int .i64) (.i .i64 n)),(b2,.var .bool (.b false))]
set_option maxHeartbeats 8000000 in
theorem DL (l:List UInt8) (hl:l.length≤9223372036854775807):PC Tryz.prog 111 [.av .str (.s l)] (.av .bool (.b (yV l))):=by
 refine zow Tryz.func111 ziU fun imm0 w0=>?_
 simp (disch:=omega) [zz]
 intro b2 b3 hb3
 refine qE (R:=zgO l) [] [(b3,.var (.int .i64) (.i .i64 0)),(b2,.var .bool (.b false))] (by simp) rfl (by simp[qQ]) (by simp) ?_ ?_
 ·exact q7.args (zdH l) (by simp[qS,TV.er,AV.er,coC])
 rintro r H' ⟨c1,c2,c3,rfl,rfl⟩ hnd
 refine⟨_,HSub.refl _,?_⟩
 simp (disch:=omega) [zz]
 refine d7 rfl rfl (c1:=c1) (c2:=c2) (c3:=c3) hl (Hr:=[(b3,.var (.int .i64) (.i .i64 0)),(b2,.var .bool (.b false))]) rfl ?_ rfl rfl (by simp) ?_
 ·simp only[Y5]
  exact List.Perm.trans (List.Perm.swap _ _ _) (List.Perm.cons _ (List.Perm.swap _ _ _))
 intro y D r i0 w0' hy hready hpend
 simp at hy
 obtain⟨_,_,_,hy3,hy2⟩:=hy
 have hy3':¬b3=y:=fun e=>hy3 e.symm
 have hy2':¬b2=y:=fun e=>hy2 e.symm
 have hb3':¬b2=b3:=fun e=>hb3 e.symm
 refine⟨zrP l b2 b3,zrU l b2 b3,?_,?_,?_,?_,?_,?_⟩
 ·rintro k H ⟨_,_,rfl⟩;rfl
 ·rintro k H ⟨_,_,_,n,rfl⟩;rfl
 ·exact⟨by omega,fun i h=>by omega,rfl⟩
 ·rintro k x H hx ⟨hk,hall,rfl⟩ imm w
  have hxl:x.length≤9223372036854775807:=Nat.le_trans (kU 47 l x (List.mem_of_getElem? hx)) hl
  refine qM (cf:=ziU) laid mixed _ _ _ (by kernel_rfl) ?_
  simp (disch:=omega) [zz,QW,yL,vS]
  refine qM (cf:=ziU) laid mixed _ _ _ (by kernel_rfl) ?_
  have hlt:k<(qT 47 l).length:=(List.getElem?_eq_some_iff.1 hx).1
  by_cases h16:k<16
  ·have h1:¬(16:Int)<(k:Int)+1:=by omega
   simp (disch:=omega) [zz,QW,yL,vS,hy3,hy3',hy2,hy2',hb3,hb3',h1]
   refine zcv (zmc x hxl) ?_
   cases hp:Q0 x
   ·simp (disch:=omega) [zz,hy3,hy3',hy2,hy2',hb3,hb3',WR,uV,ziq]
    refine⟨_,_,⟨rfl,rfl⟩,?_,rfl,rfl,_,rfl⟩
    simp only[yV,Bool.and_eq_false_iff]
    right
    rw[List.all_eq_false]
    exact⟨x,List.mem_of_getElem? hx,by simp[hp]⟩
   ·simp (disch:=omega) [zz,hy3,hy3',hy2,hy2',hb3,hb3',WR,uV,ziq]
    refine⟨_,⟨congrArg (fun r=>HObj.lrec r i0 w0') (u7 hready hpend),rfl⟩,by omega,?_,by simp⟩
    intro i hi x' hx'
    rcases Nat.lt_or_ge i k with h|h
    ·exact hall i h x' hx'
    ·have:i=k:=by omega
     subst this
     rw[hx]at hx';cases hx';exact hp
  ·have h1:(16:Int)<(k:Int)+1:=by omega
   simp (disch:=omega) [zz,QW,yL,vS,hy3,hy3',hy2,hy2',hb3,hb3',h1,WR,uV,ziq]
   refine⟨_,_,⟨rfl,rfl⟩,?_,rfl,rfl,_,rfl⟩
   simp only[yV,Bool.and_eq_false_iff]
   left
   simp;omega
 ·rintro H1 ⟨hk,hall,rfl⟩
  simp (disch:=omega) [zz]
  simp (disch:=omega) [zz,hb3,hb3',hy3,hy2,yV,Tryz.f111]
  refine⟨hk,fun x hx=>?_⟩
  obtain⟨i,hi⟩:=List.getElem?_of_mem hx
  exact hall i (List.getElem?_eq_some_iff.1 hi).1 x hi
 ·rintro r' H1 ⟨hm,h1,h2,n,rfl⟩
  refine⟨by rw[h1];simp,?_⟩
  rw[h2]
  simp only[PR]
  simp (disch:=omega) [zz,hb3,hb3',hm,Tryz.f111]
@[simp] theorem zlM:qZ Tryz.prog 115=true:=by kernel_rfl
@[simp] theorem zr3:z8 Tryz.prog (.func 115)=false:=q9 zlM
@[simp] theorem zlv:qZ Tryz.prog 116=true:=by kernel_rfl
@[simp] theorem zpR:z8 Tryz.prog (.func 116)=false:=q9 zlv
@[simp] theorem zwQ:qZ Tryz.prog 72=true:=by kernel_rfl
@[simp] theorem zxz:z8 Tryz.prog (.func 72)=false:=q9 zwQ
theorem p6 (c b:UInt8):∀l,qT c (l++[b])=if b=c then qT c l++[[]] else(qT c l).set ((qT c l).length-1) (((qT c l)[(qT c l).length-1]?.getD [])++[b])
 | []=>by
  simp only[List.nil_append,qT]
  split<;>simp
 | x::l=>by
  have ih:=p6 c b l
  have hne:=JJ c l
  simp only[List.cons_append,qT]
  by_cases hx:x=c
  ·simp only[hx,if_true]
   rw[ih]
   by_cases hb:b=c
   ·simp[hb]
   ·simp only[hb,if_false]
    cases hs:qT c l with
    | nil=>exact absurd hs hne
    | cons y r=>simp
  ·simp only[hx,if_false]
   rw[ih]
   cases hs:qT c l with
   | nil=>exact absurd hs hne
   | cons y r =>
    by_cases hb:b=c
    ·simp[hb]
    ·simp only[hb,if_false]
     cases r with
     | nil=>simp
     | cons z q=>simp
def strs (l:List (List UInt8)):List AV:=l.map AV.s
abbrev zgq:Cfg:=⟨fun _=>false,fun n=>n==5||n==35⟩
def zid (l:List UInt8) (r:TV) (H':q8):Prop:=∃b cap rs,r=.av (.slice 9) (.msl b 9 0 (qT 47 l).length cap)∧H'=[(b,.var (.arr cap 9) (.agg (strs (qT 47 l++rs))))]∧(qT 47 l).length+rs.length=cap
theorem QQ (c:UInt8):∀l,(qT c l).length≤l.length+1
 | []=>by simp[qT]
 | b::l=>by
  have:=QQ c l
  unfold qT
  split
  ·simp;omega
  ·cases hs:qT c l with
   | nil=>simp
   | cons y r=>rw[hs]at this;simp at this ⊢;omega
@[simp] theorem zn2 (l:List (List UInt8)):(strs l).length=l.length:=by simp[strs]
theorem Z6 (a b:List (List UInt8)):strs (a++b)=strs a++strs b:=by simp[strs]
theorem YH {x:UInt8} {n:Nat} (hn:n<256) (h:¬x=UInt8.ofNat n):¬(x.toNat:Int)=n:=fun e=>h (by
 apply UInt8.toNat_inj.1
 simp[Nat.mod_eq_of_lt hn];omega)
@[simp] theorem zoN (l:List (List UInt8)):AV.erks (strs l)=strs l:=by simp[strs,AV.erks_eq,AV.erk,Function.comp_def]
@[simp] theorem zjB (l:List (List UInt8)):AV.ers (strs l)=strs l:=by simp[strs,AV.ers_eq,AV.er,Function.comp_def]
theorem zay (l:List (List UInt8)) (n:Nat):(strs l).take n=strs (l.take n):=by simp[strs,List.map_take]
theorem zgz (l:List (List UInt8)) (n:Nat):(strs l).drop n=strs (l.drop n):=by simp[strs,List.map_drop]
theorem YD (n:Nat):List.replicate n (AV.s [])=strs (List.replicate n []):=by simp[strs]
theorem zaf (x:List UInt8) (l:List (List UInt8)):AV.s x::strs l=strs (x::l):=rfl
set_option maxHeartbeats 8000000 in
theorem zfk (l:List UInt8) (hl:l.length≤1000000000):q7 Tryz.prog 115 [.av .str (.s l)] [] (zid l):=by
 refine zov Tryz.func115 zgq fun imm0 w0=>?_
 simp (disch:=omega) [zz]
 intro b0
 refine AT.loopV (α:=Nat × Nat × Nat × List (List UInt8) × List (List UInt8)) (fun x ver=>St.of [(0,.av .str (.s l)),(3,.av (.slice 9) (.msl x.2.1 9 0 x.2.2.2.1.length x.2.2.1)),(4,.av (.int .i64) (.i .i64 x.1))] [] ver [(x.2.1,.var (.arr x.2.2.1 9) (.agg (strs (x.2.2.2.1++x.2.2.2.2))))])
  (fun x=>x.1≤l.length∧x.2.2.2.1=qT 47 (l.take x.1)∧x.2.2.2.1.length+x.2.2.2.2.length=x.2.2.1) (fun x=>l.length-x.1) (0,b0,1,[[]],[]) ?_ ?_ ?_
 ·apply Le.of<;>simp[qU,qG,qO,qH,qP,qK,qF,qI,qJ,qN,strs]<;>try omega
 ·simp[qT]
 rintro⟨k,b,cap,ps,rest⟩ ver ⟨hk,hps,hcap⟩ KL hN hE
 simp only at hk hps hcap hN
 have hsl:=QQ 47 (l.take k)
 rw[←hps]at hsl
 simp at hsl
 have hne:ps≠[]:=by rw[hps];exact JJ _ _
 have hpos:0<ps.length:=List.length_pos_iff.2 hne
 have e1:(strs (ps++rest)).take ps.length=strs ps:=by rw[zay,List.take_left]
 have e2:(strs (ps++rest)).drop (ps.length+1)=strs (rest.drop 1):=by
  rw[zgz,List.drop_append,List.drop_eq_nil_of_le (by omega)]
  simp
 refine qM (cf:=zgq) laid mixed _ _ _ (by kernel_rfl) ?_
 by_cases hlt:k<l.length
 ·have hlt':(k:Int)<l.length:=by omega
  have hsn:=p6 47 l[k] (l.take k)
  rw[←List.take_succ_eq_append_getElem hlt,←hps]at hsn
  by_cases hc:l[k]=47
  ·rw[if_pos hc]at hsn
   simp (disch:=omega) [zz,hlt',hc,e1,e2]
   refine⟨by omega,⟨by omega,by omega⟩,fun hcp=>?_,fun hcp b' cap' hb' hcp'=>?_⟩
   ·refine hN _ (k+1,b,cap,ps++[[]],rest.drop 1) ?_ ⟨by omega,hsn.symm,by simp;omega⟩ (by simp;omega)
    apply Le.of<;>simp[qU,qG,qO,qH,qP,qK,qF,qI,qJ,qN,Z6,zaf,e1,e2]<;>try omega
   ·refine hN _ (k+1,b',cap',ps++[[]],List.replicate (cap'-(ps.length+1)) []) ?_ ⟨by omega,hsn.symm,by simp at hcp' ⊢;omega⟩ (by simp;omega)
    have hmin:min ps.length (ps.length+rest.length)=ps.length:=by omega
    apply Le.of<;>simp[qU,qG,qO,qH,qP,qK,qF,qI,qJ,qN,Z6,YD,zaf,e1,e2,hmin]<;>try omega
  ·rw[if_neg hc]at hsn
   have hc':¬(l[k].toNat:Int)=47:=by have:=YH (n:=47) (by omega) hc;simpa using this
   have e3:(strs (ps++rest))[ps.length-1]?=some (.s (ps[ps.length-1]?.getD [])):=by
    simp only[strs,List.getElem?_map]
    rw[List.getElem?_append_left (by omega),List.getElem?_eq_getElem (by omega)]
    rfl
   have e4:∀x,(strs (ps++rest)).set (ps.length-1) (.s x)=strs (ps.set (ps.length-1) x++rest):=by
    intro x
    rw[←List.set_append_left _ _ (by omega)]
    simp[strs,List.map_set]
   have e5:(l.take (k+1)).drop k=[l[k]]:=by
    rw[List.take_succ_eq_append_getElem hlt]
    exact List.drop_left' (by simp;omega)
   have e6:(ps[ps.length-1]?.getD []).length≤l.length:=by
    rw[List.getElem?_eq_getElem (by omega)]
    have:=kU 47 (l.take k) ps[ps.length-1] (by rw[←hps];exact List.getElem_mem _)
    simp at this ⊢;omega
   generalize hz:(ps[ps.length-1]?.getD [])=z at *
   simp (disch:=omega) [zz,hlt',hc',e1,e2,e3,e4,e5]
   (repeat with_reducible refine om ?_)
   refine hN _ (k+1,b,cap,ps.set (ps.length-1) (z++[l[k]]),rest) ?_ ⟨by omega,hsn.symm,by simp;omega⟩ (by simp;omega)
   apply Le.of<;>simp[qU,qG,qO,qH,qP,qK,qF,qI,qJ,qN,e4]<;>try omega
 ·have hlt':¬(k:Int)<l.length:=by omega
  simp (disch:=omega) [zz,hlt']
  refine hE _ _ (by simp) ?_
  have hkl:l.take k=l:=List.take_of_length_le (by omega)
  rw[hkl]at hps
  simp (disch:=omega) [zz,Tryz.f115,zid,←hps]
  exact⟨_,_,⟨rfl,rfl⟩,rest,⟨rfl,rfl,rfl⟩,hcap⟩
theorem u9 (l:List UInt8) (hl:l.length≤1000000000):PC Tryz.prog 115 [.av .str (.s l)] (.av (.slice 9) (.sl .no (strs (qT 47 l)))):=by
 refine(zfk l hl).freeze laid ?_
 rintro r H' ⟨b,cap,rs,rfl,rfl,hc⟩ _
 left
 refine⟨b,cap,9,_,[],List.Perm.refl _,?_,rfl⟩
 simp only[zho,fzA]
 rw[if_pos ⟨trivial,trivial,by omega,by omega⟩]
 simp[zay]
def vV (c:UInt8):Bool:=decide (c=32)||decide (c=9)
def kA (cur:List UInt8):List UInt8→List (List UInt8)
 | []=>if cur=[] then [] else [cur]
 | c::r=>if vV c=true then(if cur=[] then kA [] r else cur::kA [] r) else kA (cur++[c]) r
def zR (l:List UInt8):List (List UInt8):=kA [] l
theorem UG:∀(a:List UInt8) {cur r:List UInt8},(∀c∈a,vV c=false)→kA cur (a++r)=kA (cur++a) r
 | [],cur,r,_=>by simp
 | c::a,cur,r,h=>by
  have h1:=h c (by simp)
  rw[List.cons_append,kA,if_neg (by simp[h1]),UG a fun x hx=>h x (by simp[hx])]
  simp
theorem uI:∀ {l cur:List UInt8},(kA cur l).length≤l.length+1
 | [],cur=>by unfold kA;split<;>simp
 | c::r,cur=>by
  unfold kA
  split
  ·split
   ·have:=uI (l:=r) (cur:=[]);simp;omega
   ·have:=uI (l:=r) (cur:=[]);simp;omega
  ·have:=uI (l:=r) (cur:=cur++[c]);simp;omega
theorem ZI:∀ {l cur x:List UInt8},x∈kA cur l→x≠[]∧x.length≤cur.length+l.length
 | [],cur,x,h=>by
  unfold kA at h
  split at h
  ·cases h
  ·rename_i hc
   simp only[List.mem_singleton]at h;subst h;exact⟨hc,by simp⟩
 | c::r,cur,x,h=>by
  unfold kA at h
  split at h
  ·split at h
   ·have:=ZI h;exact⟨this.1,by have:=this.2;simp at this ⊢;omega⟩
   ·rename_i hc
    rcases List.mem_cons.1 h with rfl|h
    ·exact⟨hc,by omega⟩
    ·have:=ZI h;exact⟨this.1,by have:=this.2;simp at this ⊢;omega⟩
  ·have:=ZI h;exact⟨this.1,by have:=this.2;simp at this ⊢;omega⟩
theorem zh0 {l:List UInt8} {k:Nat} {b:UInt8} (h:l[k]?=some b) (hb:¬b.toNat<128):1≤(QV l k).2∧k+(QV l k).2≤l.length∧∀c∈(l.drop k).take (QV l k).2,128≤c.toNat:=by
 have hkl:k<l.length:=(List.getElem?_eq_some_iff.1 h).1
 have h0:((ByteArray.mk l.toArray).get! (k+0)).toNat=b.toNat:=by rw[zmt];simp[h]
 have hsz:(ByteArray.mk l.toArray).size=l.length:=by simp[ByteArray.size]
 have cont:∀j,(decide (k+j<(ByteArray.mk l.toArray).size)&&(((ByteArray.mk l.toArray).get! (k+j)).toNat / 64==2))=true→k+j<l.length∧∀c,l[k+j]?=some c→128≤c.toNat:=by
  intro j hj
  simp only[Bool.and_eq_true,decide_eq_true_eq,beq_iff_eq,hsz]at hj
  refine⟨hj.1,fun c hc=>?_⟩
  have:((ByteArray.mk l.toArray).get! (k+j)).toNat=c.toNat:=by rw[zmt];simp[hc]
  omega
 have fin:∀n,1≤n→(∀j,1≤j→j<n→k+j<l.length∧∀c,l[k+j]?=some c→128≤c.toNat)→k+n≤l.length∧∀c∈(l.drop k).take n,128≤c.toNat:=by
  intro n hn hj
  have hlen:k+n≤l.length:=by
   by_cases h1:n=1
   ·omega
   ·have:=(hj (n-1) (by omega) (by omega)).1;omega
  refine⟨hlen,fun c hc=>?_⟩
  obtain⟨i,hi,rfl⟩:=List.getElem_of_mem hc
  have hin:i<n:=by rw[List.length_take]at hi;omega
  have he:((l.drop k).take n)[i]=l[k+i]'(by omega):=by simp
  rw[he]
  by_cases h1:i=0
  ·subst h1
   have:l[k+0]'(by omega)=b:=by
    have:=List.getElem?_eq_some_iff.1 h
    simpa using this.2
   rw[this];omega
  ·exact(hj i (by omega) hin).2 _ (List.getElem?_eq_getElem _)
 have one:1≤1∧k+1≤l.length∧∀c∈(l.drop k).take 1,128≤c.toNat:=⟨by omega,fin 1 (by omega) fun j h1 h2=>by omega⟩
 unfold QV Utf8.decode
 simp only[h0]
 rw[if_neg (by omega)]
 split
 ·rename_i hc
  rw[Bool.and_eq_true]at hc
  split
  ·exact⟨by simp,fin 2 (by omega) fun j h1 h2=>by
    obtain rfl:j=1:=by omega
    exact cont 1 hc.2⟩
  ·exact one
 ·split
  ·rename_i hc
   simp only[Bool.and_eq_true]at hc
   split
   ·exact⟨by simp,fin 3 (by omega) fun j h1 h2=>by
     rcases(by omega:j=1∨j=2)with rfl|rfl
     ·exact cont 1 (by simpa using hc.1.2)
     ·exact cont 2 (by simpa using hc.2)⟩
   ·exact one
  ·split
   ·rename_i hc
    simp only[Bool.and_eq_true]at hc
    split
    ·exact⟨by simp,fin 4 (by omega) fun j h1 h2=>by
      rcases(by omega:j=1∨j=2∨j=3)with rfl|rfl|rfl
      ·exact cont 1 (by simpa using hc.1.1.2)
      ·exact cont 2 (by simpa using hc.1.2)
      ·exact cont 3 (by simpa using hc.2)⟩
    ·exact one
   ·exact one
def cP (r:Nat):Bool:=decide (r=32)||decide (r=9)
theorem zi2 (c:UInt8):cP c.toNat=vV c:=by
 unfold cP vV
 have h1:c.toNat=32↔c=32:=⟨fun h=>by
                         have:c=UInt8.ofNat c.toNat:=by simp
                         rw[this,h];rfl,fun h=>by rw[h];rfl⟩
 have h2:c.toNat=9↔c=9:=⟨fun h=>by
                        have:c=UInt8.ofNat c.toNat:=by simp
                        rw[this,h];rfl,fun h=>by rw[h];rfl⟩
 rw[decide_eq_decide.2 h1,decide_eq_decide.2 h2]
@[simp] theorem zkn:qZ Tryz.prog 166=true:=by kernel_rfl
@[simp] theorem zpS:z8 Tryz.prog (.func 166)=false:=q9 zkn
@[simp] theorem zmU:qZ Tryz.prog 165=true:=by kernel_rfl
@[simp] theorem zqN:z8 Tryz.prog (.func 165)=false:=q9 zmU
@[simp] theorem zzT:qZ Tryz.prog 122=true:=by kernel_rfl
@[simp] theorem zAQ:z8 Tryz.prog (.func 122)=false:=q9 zzT
theorem zl1 (n:Nat) (hn:n≤1114111):PC Tryz.prog 166 [.av (.int .i32) (.i .i32 n)] (.av .bool (.b (cP n))):=by
 refine zow Tryz.func166 cf0 fun imm0 w0=>?_
 by_cases h1:n=32
 ·subst h1
  simp (disch:=omega) [zz,Tryz.f166,cP]
 ·have h1':¬(n:Int)=32:=by omega
  by_cases h2:n=9
  ·subst h2
   simp (disch:=omega) [zz,Tryz.f166,cP]
  ·have h2':¬(n:Int)=9:=by omega
   simp (disch:=omega) [zz,h1,h1',h2,h2',Tryz.f166,cP]
theorem uC (a b:List AV):AV.erks (a++b)=AV.erks a++AV.erks b:=by simp[AV.erks_eq]
def JK (j:List AV):Prop:=AV.erks j=j
theorem JK.app {a b:List AV} (ha:JK a) (hb:JK b):JK (a++b):=by unfold JK at *;rw[uC,ha,hb]
theorem JK.nil:JK []:=rfl
theorem JK.take {a:List AV} (h:JK a) (n:Nat):JK (a.take n):=by
 unfold JK at *;rw[AV.erks_eq]at *;rw[List.map_take,h]
theorem JK.drop {a:List AV} (h:JK a) (n:Nat):JK (a.drop n):=by
 unfold JK at *;rw[AV.erks_eq]at *;rw[List.map_drop,h]
theorem JK.rep {z:AV} (h:z.erk=z) (n:Nat):JK (List.replicate n z):=by
 unfold JK;rw[AV.erks_eq,List.map_replicate,h]
end Go.Proofs.YtooipdkilgpojaaGreatDoor
end
