/- Rounds told on; nil as an argument; nil as a result. No condition. -/
import Derived.Test.YtognnffjdckalaaGreatDoorP0ToP7
set_option linter.unusedSimpArgs false
set_option linter.unusedVariables false
set_option linter.unusedSectionVars false
set_option maxHeartbeats 64000000
set_option maxRecDepth 100000
namespace Go.Proofs.YtognnffjdckalaaGreatDoor
open Go Go.Ab
open Classical
section
variable [Sel]
theorem zhA {P:Program} {l:Nat} {args:List TV} {H:q7} {R R':TV->q7->Prop} (h:YC P l args H R) (hr:∀r H',R r H'->H'.keys.Nodup->∃H'':q7,Ab.HSub H'' H'/\R' r H''):YC P l args H R':=by
 intro imm w vs h1 h2
 obtain⟨f,tmps,as',bo,h3,h4⟩:=h imm w vs h1 h2
 refine⟨f,tmps,as',bo,h3,RoundIn.mono h4 ?_⟩
 rintro e w' ⟨v,r,imm',H',a,b,c,d,st⟩
 obtain⟨H'',hs,hR⟩:=hr _ _ b d.nodup
 exact⟨v,r,imm',H'',a,hR,c,⟨d.imm,hs.nodup d.nodup,fun b o ho=>d.obj b o (hs.subset ho),d.tab⟩,⟨st.os,st.tape,st.output,st.size,st.frame,st.imm,st.kept,fun b hb=>st.dom b (hs.keys hb),st.drawn⟩⟩
theorem q6.argNil {P:Program} {f:FuncId} {e:TypeId} {args:List TV} {H:q7} {R:TV->q7->Prop} (h:q6 P f (.av (.slice e) .nsl::args) H R):q6 P f (.cst (.slice none 0 0)::args) H R:=by
 intro imm w vs h1 h2
 refine h imm w vs h1 ?_
 obtain⟨vs⟩:=vs
 match vs,h2 with
 | v::r,⟨e1,e2⟩ =>
  have e1':v=.slice none 0 0:=e1
  subst e1'
  exact⟨⟨rfl,by simp[VC,Value.cells]⟩,e2⟩
theorem q6.nilR {P:Program} {f:FuncId} {args:List TV} {H:q7} {R R':TV->q7->Prop} (h:q6 P f args H R) (hr:∀r H',R r H'->R' r H'\/∃e,r=.av (.slice e) .nsl/\R' (.av (.slice e) (.sl .no [])) H'):q6 P f args H R' :=
 fun imm w vs h1 h2=>(h imm w vs h1 h2).mono fun e w' ⟨v,r,imm',H',a,b,c,d,st⟩=>by
  rcases hr _ _ b with h3|⟨e,rfl,h3⟩
  ·exact⟨v,r,imm',H',a,h3,c,d,st⟩
  ·obtain⟨f,hv⟩:=c
   simp only[VC]at hv
   obtain⟨_,_,hv⟩:=hv
   exact⟨v,_,imm',H',a,h3,⟨f,by simp only[VC];exact⟨e,none,0,rfl,hv,by simp,by simp[xV]⟩⟩,d,st⟩
def kZ:List UInt8:=List.replicate 32 0
def Z3 (l:List UInt8):Bool:=decide ((qP 47 l).length<=16)&&(qP 47 l).all QT
theorem ZM (c:UInt8):∀l x,x∈qP c l->x.length<=l.length
 | [],x,h=>by simp[qP]at h;simp[h]
 | b::l,x,h=>by
  unfold qP at h
  split at h
  ·rcases List.mem_cons.1 h with rfl|h
   ·simp
   ·have:=ZM c l x h;simp;omega
  ·cases hs:qP c l with
   | nil=>exact absurd hs (ZY c l)
   | cons y r =>
    rw[hs]at h
    rcases List.mem_cons.1 h with rfl|h
    ·have:=ZM c l y (by rw[hs];simp);simp;omega
    ·have:=ZM c l x (by rw[hs];simp[h]);simp;omega
abbrev zmn:Cfg:=⟨fun n=>n==2||n==3,fun _=>false⟩
def ztf (l:List UInt8) (b2 b3:Nat) (k:Nat) (H:q7):Prop :=
 k<=16/\(∀i,i<k->∀x,(qP 47 l)[i]?=some x->QT x=true)/\H=[(b3,.var (.int .i64) (.i .i64 k)),(b2,.var .bool (.b false))]
def zsQ (l:List UInt8) (b2 b3:Nat) (r:Loop) (H:q7):Prop :=
 Z3 l=false/\r.state=.done/\r.pending=some .ret/\∃n,H=[(b3,.var (.int .i64) (.i .i64 n)),(b2,.var .bool (.b false))]
theorem zi8 (l:List UInt8) (hl:l.length<=9223372036854775807):PC Tryz.prog 179 [.av .str (.s l)] (.av .bool (.b (Z3 l))):=by
 refine zow Tryz.func179 zmn fun imm0 w0=>?_
 simp (disch:=omega) [zz]
 intro b2 b3 hb3
 refine qM (R:=zkM l) [] [(b3,.var (.int .i64) (.i .i64 0)),(b2,.var .bool (.b false))] (by simp) rfl (by simp[qH]) (by simp) ?_ ?_
 ·exact q6.args (zfE l) (by simp[q9,TV.er,AV.er,coC])
 rintro r H' ⟨c1,c2,c3,rfl,rfl⟩ hnd
 refine⟨_,HSub.refl _,?_⟩
 simp (disch:=omega) [zz]
 refine CZ rfl rfl (c1:=c1) (c2:=c2) (c3:=c3) hl (Hr:=[(b3,.var (.int .i64) (.i .i64 0)),(b2,.var .bool (.b false))]) rfl ?_ rfl rfl (by simp) ?_
 ·simp only[xO]
  exact List.Perm.trans (List.Perm.swap _ _ _) (List.Perm.cons _ (List.Perm.swap _ _ _))
 intro y D r i0 w0' hy hready hpend
 simp at hy
 obtain⟨_,_,_,hy3,hy2⟩:=hy
 have hy3':¬b3=y:=fun e=>hy3 e.symm
 have hy2':¬b2=y:=fun e=>hy2 e.symm
 have hb3':¬b2=b3:=fun e=>hb3 e.symm
 refine⟨ztf l b2 b3,zsQ l b2 b3,?_,?_,?_,?_,?_,?_⟩
 ·rintro k H ⟨_,_,rfl⟩;rfl
 ·rintro k H ⟨_,_,_,n,rfl⟩;rfl
 ·exact⟨by omega,fun i h=>by omega,rfl⟩
 ·rintro k x H hx ⟨hk,hall,rfl⟩ imm w
  have hxl:x.length<=9223372036854775807:=Nat.le_trans (ZM 47 l x (List.mem_of_getElem? hx)) hl
  refine zrd zmn ?_
  simp (disch:=omega) [zz,J7,Z7,DJ]
  refine zrd zmn ?_
  have hlt:k<(qP 47 l).length:=(List.getElem?_eq_some_iff.1 hx).1
  by_cases h16:k<16
  ·have h1:¬(16:Int)<(k:Int)+1:=by omega
   simp (disch:=omega) [zz,J7,Z7,DJ,hy3,hy3',hy2,hy2',hb3,hb3',h1]
   refine zcv (zon x hxl) ?_
   cases hp:QT x
   ·simp (disch:=omega) [zz,hy3,hy3',hy2,hy2',hb3,hb3',YS,VB,zo3]
    refine⟨_,_,⟨rfl,rfl⟩,?_,rfl,rfl,_,rfl⟩
    simp only[Z3,Bool.and_eq_false_iff]
    right
    rw[List.all_eq_false]
    exact⟨x,List.mem_of_getElem? hx,by simp[hp]⟩
   ·simp (disch:=omega) [zz,hy3,hy3',hy2,hy2',hb3,hb3',YS,VB,zo3]
    refine⟨_,⟨congrArg (fun r=>HObj.lrec r i0 w0') (vN hready hpend),rfl⟩,by omega,?_,by simp⟩
    intro i hi x' hx'
    rcases Nat.lt_or_ge i k with h|h
    ·exact hall i h x' hx'
    ·have:i=k:=by omega
     subst this
     rw[hx]at hx';cases hx';exact hp
  ·have h1:(16:Int)<(k:Int)+1:=by omega
   simp (disch:=omega) [zz,J7,Z7,DJ,hy3,hy3',hy2,hy2',hb3,hb3',h1,YS,VB,zo3]
   refine⟨_,_,⟨rfl,rfl⟩,?_,rfl,rfl,_,rfl⟩
   simp only[Z3,Bool.and_eq_false_iff]
   left
   simp;omega
 ·rintro H1 ⟨hk,hall,rfl⟩
  simp (disch:=omega) [zz]
  simp (disch:=omega) [zz,hb3,hb3',hy3,hy2,Z3,Tryz.f179]
  refine⟨hk,fun x hx=>?_⟩
  obtain⟨i,hi⟩:=List.getElem?_of_mem hx
  exact hall i (List.getElem?_eq_some_iff.1 hi).1 x hi
 ·rintro r' H1 ⟨hm,h1,h2,n,rfl⟩
  refine⟨by rw[h1];simp,?_⟩
  rw[h2]
  simp only[dQ]
  simp (disch:=omega) [zz,hb3,hb3',hm,Tryz.f179]
def wF (l d:List UInt8):Bool:=Z3 l&&(decide (d=[])||(Z3 d&&KE l (d++[47])))
theorem zg7 (l d:List UInt8) (hl:l.length<=9223372036854775807) (hd:d.length<=1000):PC Tryz.prog 180 [.av .str (.s l),.av .str (.s d)] (.av .bool (.b (wF l d))):=by
 refine zow Tryz.func180 cf0 fun imm0 w0=>?_
 simp (disch:=omega) [zz]
 refine zcv (zi8 l hl) ?_
 cases hm:Z3 l
 ·simp (disch:=omega) [zz,Tryz.f180,wF,hm]
 by_cases he:d=[]
 ·simp (disch:=omega) [zz,he,Tryz.f180,wF,hm]
 simp (disch:=omega) [zz,he]
 refine zcv (zi8 d (by omega)) ?_
 cases hm2:Z3 d
 ·simp (disch:=omega) [zz,Tryz.f180,wF,hm,hm2,he]
 simp (disch:=omega) [zz,he]
 refine⟨by omega,?_⟩
 refine zcv (zej l (d++[47]) hl (by simp;omega)) ?_
 simp (disch:=omega) [zz,Tryz.f180,wF,hm,hm2,he]
theorem D4 (c b:UInt8):∀l,qP c (l++[b])=if b=c then qP c l++[[]] else(qP c l).set ((qP c l).length-1) (((qP c l)[(qP c l).length-1]?.getD [])++[b])
 | []=>by
  simp only[List.nil_append,qP]
  split<;>simp
 | x::l=>by
  have ih:=D4 c b l
  have hne:=ZY c l
  simp only[List.cons_append,qP]
  by_cases hx:x=c
  ·simp only[hx,if_true]
   rw[ih]
   by_cases hb:b=c
   ·simp[hb]
   ·simp only[hb,if_false]
    cases hs:qP c l with
    | nil=>exact absurd hs hne
    | cons y r=>simp
  ·simp only[hx,if_false]
   rw[ih]
   cases hs:qP c l with
   | nil=>exact absurd hs hne
   | cons y r =>
    by_cases hb:b=c
    ·simp[hb]
    ·simp only[hb,if_false]
     cases r with
     | nil=>simp
     | cons z q=>simp
def strs (l:List (List UInt8)):List AV:=l.map AV.s
abbrev zjf:Cfg:=⟨fun _=>false,fun n=>n==5||n==35⟩
def znE (l:List UInt8) (r:TV) (H':q7):Prop:=∃b cap rs,r=.av (.slice 9) (.msl b 9 0 (qP 47 l).length cap)/\H'=[(b,.var (.arr cap 9) (.agg (strs (qP 47 l++rs))))]/\(qP 47 l).length+rs.length=cap
theorem vU (c:UInt8):∀l,(qP c l).length<=l.length+1
 | []=>by simp[qP]
 | b::l=>by
  have:=vU c l
  unfold qP
  split
  ·simp;omega
  ·cases hs:qP c l with
   | nil=>simp
   | cons y r=>rw[hs]at this;simp at this |-;omega
@[simp] theorem zqo (l:List (List UInt8)):(strs l).length=l.length:=by simp[strs]
theorem pB (a b:List (List UInt8)):strs (a++b)=strs a++strs b:=by simp[strs]
theorem zfe {x:UInt8} {n:Nat} (hn:n<256) (h:¬x=UInt8.ofNat n):¬(x.toNat:Int)=n:=fun e=>h (by
 apply UInt8.toNat_inj.1
 simp[Nat.mod_eq_of_lt hn];omega)
@[simp] theorem zrB (l:List (List UInt8)):AV.erks (strs l)=strs l:=by simp[strs,AV.erks_eq,AV.erk,Function.comp_def]
@[simp] theorem zrQ (l:List (List UInt8)):AV.ers (strs l)=strs l:=by simp[strs,AV.ers_eq,AV.er,Function.comp_def]
theorem zcu (l:List (List UInt8)) (n:Nat):(strs l).take n=strs (l.take n):=by simp[strs,List.map_take]
theorem zl5 (l:List (List UInt8)) (n:Nat):(strs l).drop n=strs (l.drop n):=by simp[strs,List.map_drop]
theorem zlW (n:Nat):List.replicate n (AV.s [])=strs (List.replicate n []):=by simp[strs]
theorem zcF (x:List UInt8) (l:List (List UInt8)):AV.s x::strs l=strs (x::l):=rfl
theorem zhp (l:List UInt8) (hl:l.length<=1000000000):q6 Tryz.prog 160 [.av .str (.s l)] [] (znE l):=by
 refine zov Tryz.func160 zjf fun imm0 w0=>?_
 simp (disch:=omega) [zz]
 intro b0
 refine AT.loopV (α:=Nat × Nat × Nat × List (List UInt8) × List (List UInt8)) (fun x ver=>St.of [(0,.av .str (.s l)),(3,.av (.slice 9) (.msl x.2.1 9 0 x.2.2.2.1.length x.2.2.1)),(4,.av (.int .i64) (.i .i64 x.1))] [] ver [(x.2.1,.var (.arr x.2.2.1 9) (.agg (strs (x.2.2.2.1++x.2.2.2.2))))])
  (fun x=>x.1<=l.length/\x.2.2.2.1=qP 47 (l.take x.1)/\x.2.2.2.1.length+x.2.2.2.2.length=x.2.2.1) (fun x=>l.length-x.1) (0,b0,1,[[]],[]) ?_ ?_ ?_
 ·apply Le.of<;>simp[le9,strs]<;>try omega
 ·simp[qP]
 rintro⟨k,b,cap,ps,rest⟩ ver ⟨hk,hps,hcap⟩ KL hN hE
 simp only at hk hps hcap hN
 have hsl:=vU 47 (l.take k)
 rw[<-hps]at hsl
 simp at hsl
 have hne:ps≠[]:=by rw[hps];exact ZY _ _
 have hpos:0<ps.length:=List.length_pos_iff.2 hne
 have e1:(strs (ps++rest)).take ps.length=strs ps:=by rw[zcu,List.take_left]
 have e2:(strs (ps++rest)).drop (ps.length+1)=strs (rest.drop 1):=by
  rw[zl5,List.drop_append,List.drop_eq_nil_of_le (by omega)]
  simp
 refine zrd zjf ?_
 by_cases hlt:k<l.length
 ·have hlt':(k:Int)<l.length:=by omega
  have hsn:=D4 47 l[k] (l.take k)
  rw[<-List.take_succ_eq_append_getElem hlt,<-hps]at hsn
  by_cases hc:l[k]=47
  ·rw[if_pos hc]at hsn
   simp (disch:=omega) [zz,hlt',hc,e1,e2]
   refine⟨by omega,⟨by omega,by omega⟩,fun hcp=>?_,fun hcp b' cap' hb' hcp'=>?_⟩
   ·refine hN _ (k+1,b,cap,ps++[[]],rest.drop 1) ?_ ⟨by omega,hsn.symm,by simp;omega⟩ (by simp;omega)
    apply Le.of<;>simp[le9,pB,zcF,e1,e2]<;>try omega
   ·refine hN _ (k+1,b',cap',ps++[[]],List.replicate (cap'-(ps.length+1)) []) ?_ ⟨by omega,hsn.symm,by simp at hcp' |-;omega⟩ (by simp;omega)
    have hmin:min ps.length (ps.length+rest.length)=ps.length:=by omega
    apply Le.of<;>simp[le9,pB,zlW,zcF,e1,e2,hmin]<;>try omega
  ·rw[if_neg hc]at hsn
   have hc':¬(l[k].toNat:Int)=47:=by have:=zfe (n:=47) (by omega) hc;simpa using this
   have e3:(strs (ps++rest))[ps.length-1]?=some (.s (ps[ps.length-1]?.getD [])):=by
    simp only[strs,List.getElem?_map]
    rw[List.getElem?_append_left (by omega),List.getElem?_eq_getElem (by omega)]
    rfl
   have e4:∀x,(strs (ps++rest)).set (ps.length-1) (.s x)=strs (ps.set (ps.length-1) x++rest):=by
    intro x
    rw[<-List.set_append_left _ _ (by omega)]
    simp[strs,List.map_set]
   have e5:(l.take (k+1)).drop k=[l[k]]:=by
    rw[List.take_succ_eq_append_getElem hlt]
    exact List.drop_left' (by simp;omega)
   have e6:(ps[ps.length-1]?.getD []).length<=l.length:=by
    rw[List.getElem?_eq_getElem (by omega)]
    have:=ZM 47 (l.take k) ps[ps.length-1] (by rw[<-hps];exact List.getElem_mem _)
    simp at this |-;omega
   generalize hz:(ps[ps.length-1]?.getD [])=z at *
   simp (disch:=omega) [zz,hlt',hc',e1,e2,e3,e4,e5]
   (repeat with_reducible refine om ?_)
   refine hN _ (k+1,b,cap,ps.set (ps.length-1) (z++[l[k]]),rest) ?_ ⟨by omega,hsn.symm,by simp;omega⟩ (by simp;omega)
   apply Le.of<;>simp[le9,e4]<;>try omega
 ·have hlt':¬(k:Int)<l.length:=by omega
  simp (disch:=omega) [zz,hlt']
  refine hE _ _ (by simp) ?_
  have hkl:l.take k=l:=List.take_of_length_le (by omega)
  rw[hkl]at hps
  simp (disch:=omega) [zz,Tryz.f160,znE,<-hps]
  exact⟨_,_,⟨rfl,rfl⟩,rest,⟨rfl,rfl,rfl⟩,hcap⟩
theorem zcZ (l:List UInt8) (hl:l.length<=1000000000):PC Tryz.prog 160 [.av .str (.s l)] (.av (.slice 9) (.sl .no (strs (qP 47 l)))):=by
 refine(zhp l hl).freeze laid ?_
 rintro r H' ⟨b,cap,rs,rfl,rfl,hc⟩ _
 left
 refine⟨b,cap,9,_,[],List.Perm.refl _,?_,rfl⟩
 simp only[V2,fzA]
 rw[if_pos ⟨trivial,trivial,by omega,by omega⟩]
 simp[zcu]
theorem zlS (l:List UInt8) (hl:l.length<=9223372036854775807):PC Tryz.prog 161 [.av .str (.s l)] (.av .bool (.b (QT l))):=by
 refine zow Tryz.func161 cf0 fun imm0 w0=>?_
 by_cases h1:l=[]
 ·simp (disch:=omega) [zz,h1,Tryz.f161,QT]
 by_cases h2:l=[46]
 ·simp (disch:=omega) [zz,h2,Tryz.f161,QT]
 by_cases h3:l=[46,46]
 ·simp (disch:=omega) [zz,h3,Tryz.f161,QT]
 by_cases h4:l.length<=64
 ·have h4':¬(64:Int)<l.length:=by omega
  simp (disch:=omega) [zz,h1,h2,h3,h4']
  have hpv:QT l=l.all fun b=>j4 b.toNat:=by simp[QT,h1,h2,h3,h4]
  refine AT.loop' (α:=Nat) (fun k=>St.of [(0,.av .str (.s l)),(3,.av (.int .i64) (.i .i64 k))] [] (fun _=>0) []) (fun k=>k<=l.length/\((l.take k).all fun b=>j4 b.toNat)=true) (fun k=>l.length-k) 0 ?_ ?_ ?_
  ·apply Le.of<;>simp[le9,jF]<;>try omega
  ·simp
  rintro k ⟨hk,hall⟩ KL hN hE
  refine zrd cf0 ?_
  by_cases hlt:k<l.length
  ·have hlt':(k:Int)<l.length:=by omega
   obtain⟨n,hn⟩:∃n:Nat,l[k].toNat=n:=⟨_,rfl⟩
   have hn255:n<=255:=by have:=l[k].toNat_lt;omega
   have hbad:j4 l[k].toNat=false->QT l=false:=by
    intro h
    rw[hpv,List.all_eq_false]
    exact⟨l[k],List.getElem_mem _,by simp[h]⟩
   rcases(by omega:(0<=n/\n<=42)\/n=43\/n=44\/n=45\/n=46\/n=47\/(48<=n/\n<=57)\/(58<=n/\n<=64)\/(65<=n/\n<=90)\/(91<=n/\n<=94)\/n=95\/n=96\/(97<=n/\n<=122)\/(123<=n/\n<=255))with hc|hc|hc|hc|hc|hc|hc|hc|hc|hc|hc|hc|hc|hc
   ·have g97:¬((97:Int)<=n):=by omega
    have g65:¬((65:Int)<=n):=by omega
    have g48:¬((48:Int)<=n):=by omega
    have l122:((n:Int)<=122):=by omega
    have l90:((n:Int)<=90):=by omega
    have l57:((n:Int)<=57):=by omega
    have e95:¬((n:Int)=95):=by omega
    have e46:¬((n:Int)=46):=by omega
    have e45:¬((n:Int)=45):=by omega
    have e43:¬((n:Int)=43):=by omega
    have hs:j4 n=false:=by unfold j4;simp;omega
    simp (disch:=omega) [zz,hlt',hn,g97,g65,g48,l122,l90,l57,e95,e46,e45,e43,hs]
    (repeat with_reducible refine om ?_)
    refine hE _ _ (by simp) ?_
    simp (disch:=omega) [zz,Tryz.f161]
    exact hbad (by rw[hn];exact hs)
   ·subst hc
    have hs:j4 43=true:=by decide
    simp (disch:=omega) [zz,hlt',hn,hs]
    (repeat with_reducible refine om ?_)
    refine hN _ (k+1) ?_ ⟨by omega,by rw[List.take_succ_eq_append_getElem hlt,List.all_append,hall];simp[hn,hs]⟩ (by omega)
    apply Le.of<;>simp[le9,jF]<;>try omega
   ·have g97:¬((97:Int)<=n):=by omega
    have g65:¬((65:Int)<=n):=by omega
    have g48:¬((48:Int)<=n):=by omega
    have l122:((n:Int)<=122):=by omega
    have l90:((n:Int)<=90):=by omega
    have l57:((n:Int)<=57):=by omega
    have e95:¬((n:Int)=95):=by omega
    have e46:¬((n:Int)=46):=by omega
    have e45:¬((n:Int)=45):=by omega
    have e43:¬((n:Int)=43):=by omega
    have hs:j4 n=false:=by unfold j4;simp;omega
    simp (disch:=omega) [zz,hlt',hn,g97,g65,g48,l122,l90,l57,e95,e46,e45,e43,hs]
    (repeat with_reducible refine om ?_)
    refine hE _ _ (by simp) ?_
    simp (disch:=omega) [zz,Tryz.f161]
    exact hbad (by rw[hn];exact hs)
   ·subst hc
    have hs:j4 45=true:=by decide
    simp (disch:=omega) [zz,hlt',hn,hs]
    (repeat with_reducible refine om ?_)
    refine hN _ (k+1) ?_ ⟨by omega,by rw[List.take_succ_eq_append_getElem hlt,List.all_append,hall];simp[hn,hs]⟩ (by omega)
    apply Le.of<;>simp[le9,jF]<;>try omega
   ·subst hc
    have hs:j4 46=true:=by decide
    simp (disch:=omega) [zz,hlt',hn,hs]
    (repeat with_reducible refine om ?_)
    refine hN _ (k+1) ?_ ⟨by omega,by rw[List.take_succ_eq_append_getElem hlt,List.all_append,hall];simp[hn,hs]⟩ (by omega)
    apply Le.of<;>simp[le9,jF]<;>try omega
   ·have g97:¬((97:Int)<=n):=by omega
    have g65:¬((65:Int)<=n):=by omega
    have g48:¬((48:Int)<=n):=by omega
    have l122:((n:Int)<=122):=by omega
    have l90:((n:Int)<=90):=by omega
    have l57:((n:Int)<=57):=by omega
    have e95:¬((n:Int)=95):=by omega
    have e46:¬((n:Int)=46):=by omega
    have e45:¬((n:Int)=45):=by omega
    have e43:¬((n:Int)=43):=by omega
    have hs:j4 n=false:=by unfold j4;simp;omega
    simp (disch:=omega) [zz,hlt',hn,g97,g65,g48,l122,l90,l57,e95,e46,e45,e43,hs]
    (repeat with_reducible refine om ?_)
    refine hE _ _ (by simp) ?_
    simp (disch:=omega) [zz,Tryz.f161]
    exact hbad (by rw[hn];exact hs)
   ·have g97:¬((97:Int)<=n):=by omega
    have g65:¬((65:Int)<=n):=by omega
    have g48:((48:Int)<=n):=by omega
    have l122:((n:Int)<=122):=by omega
    have l90:((n:Int)<=90):=by omega
    have l57:((n:Int)<=57):=by omega
    have e95:¬((n:Int)=95):=by omega
    have e46:¬((n:Int)=46):=by omega
    have e45:¬((n:Int)=45):=by omega
    have e43:¬((n:Int)=43):=by omega
    have hs:j4 n=true:=by unfold j4;simp;omega
    simp (disch:=omega) [zz,hlt',hn,g97,g65,g48,l122,l90,l57,e95,e46,e45,e43,hs]
    (repeat with_reducible refine om ?_)
    refine hN _ (k+1) ?_ ⟨by omega,by rw[List.take_succ_eq_append_getElem hlt,List.all_append,hall];simp[hn,hs]⟩ (by omega)
    apply Le.of<;>simp[le9,jF]<;>try omega
   ·have g97:¬((97:Int)<=n):=by omega
    have g65:¬((65:Int)<=n):=by omega
    have g48:((48:Int)<=n):=by omega
    have l122:((n:Int)<=122):=by omega
    have l90:((n:Int)<=90):=by omega
    have l57:¬((n:Int)<=57):=by omega
    have e95:¬((n:Int)=95):=by omega
    have e46:¬((n:Int)=46):=by omega
    have e45:¬((n:Int)=45):=by omega
    have e43:¬((n:Int)=43):=by omega
    have hs:j4 n=false:=by unfold j4;simp;omega
    simp (disch:=omega) [zz,hlt',hn,g97,g65,g48,l122,l90,l57,e95,e46,e45,e43,hs]
    (repeat with_reducible refine om ?_)
    refine hE _ _ (by simp) ?_
    simp (disch:=omega) [zz,Tryz.f161]
    exact hbad (by rw[hn];exact hs)
   ·have g97:¬((97:Int)<=n):=by omega
    have g65:((65:Int)<=n):=by omega
    have g48:((48:Int)<=n):=by omega
    have l122:((n:Int)<=122):=by omega
    have l90:((n:Int)<=90):=by omega
    have l57:¬((n:Int)<=57):=by omega
    have e95:¬((n:Int)=95):=by omega
    have e46:¬((n:Int)=46):=by omega
    have e45:¬((n:Int)=45):=by omega
    have e43:¬((n:Int)=43):=by omega
    have hs:j4 n=true:=by unfold j4;simp;omega
    simp (disch:=omega) [zz,hlt',hn,g97,g65,g48,l122,l90,l57,e95,e46,e45,e43,hs]
    (repeat with_reducible refine om ?_)
    refine hN _ (k+1) ?_ ⟨by omega,by rw[List.take_succ_eq_append_getElem hlt,List.all_append,hall];simp[hn,hs]⟩ (by omega)
    apply Le.of<;>simp[le9,jF]<;>try omega
   ·have g97:¬((97:Int)<=n):=by omega
    have g65:((65:Int)<=n):=by omega
    have g48:((48:Int)<=n):=by omega
    have l122:((n:Int)<=122):=by omega
    have l90:¬((n:Int)<=90):=by omega
    have l57:¬((n:Int)<=57):=by omega
    have e95:¬((n:Int)=95):=by omega
    have e46:¬((n:Int)=46):=by omega
    have e45:¬((n:Int)=45):=by omega
    have e43:¬((n:Int)=43):=by omega
    have hs:j4 n=false:=by unfold j4;simp;omega
    simp (disch:=omega) [zz,hlt',hn,g97,g65,g48,l122,l90,l57,e95,e46,e45,e43,hs]
    (repeat with_reducible refine om ?_)
    refine hE _ _ (by simp) ?_
    simp (disch:=omega) [zz,Tryz.f161]
    exact hbad (by rw[hn];exact hs)
   ·subst hc
    have hs:j4 95=true:=by decide
    simp (disch:=omega) [zz,hlt',hn,hs]
    (repeat with_reducible refine om ?_)
    refine hN _ (k+1) ?_ ⟨by omega,by rw[List.take_succ_eq_append_getElem hlt,List.all_append,hall];simp[hn,hs]⟩ (by omega)
    apply Le.of<;>simp[le9,jF]<;>try omega
   ·have g97:¬((97:Int)<=n):=by omega
    have g65:((65:Int)<=n):=by omega
    have g48:((48:Int)<=n):=by omega
    have l122:((n:Int)<=122):=by omega
    have l90:¬((n:Int)<=90):=by omega
    have l57:¬((n:Int)<=57):=by omega
    have e95:¬((n:Int)=95):=by omega
    have e46:¬((n:Int)=46):=by omega
    have e45:¬((n:Int)=45):=by omega
    have e43:¬((n:Int)=43):=by omega
    have hs:j4 n=false:=by unfold j4;simp;omega
    simp (disch:=omega) [zz,hlt',hn,g97,g65,g48,l122,l90,l57,e95,e46,e45,e43,hs]
    (repeat with_reducible refine om ?_)
    refine hE _ _ (by simp) ?_
    simp (disch:=omega) [zz,Tryz.f161]
    exact hbad (by rw[hn];exact hs)
   ·have g97:((97:Int)<=n):=by omega
    have g65:((65:Int)<=n):=by omega
    have g48:((48:Int)<=n):=by omega
    have l122:((n:Int)<=122):=by omega
    have l90:¬((n:Int)<=90):=by omega
    have l57:¬((n:Int)<=57):=by omega
    have e95:¬((n:Int)=95):=by omega
    have e46:¬((n:Int)=46):=by omega
    have e45:¬((n:Int)=45):=by omega
    have e43:¬((n:Int)=43):=by omega
    have hs:j4 n=true:=by unfold j4;simp;omega
    simp (disch:=omega) [zz,hlt',hn,g97,g65,g48,l122,l90,l57,e95,e46,e45,e43,hs]
    (repeat with_reducible refine om ?_)
    refine hN _ (k+1) ?_ ⟨by omega,by rw[List.take_succ_eq_append_getElem hlt,List.all_append,hall];simp[hn,hs]⟩ (by omega)
    apply Le.of<;>simp[le9,jF]<;>try omega
   ·have g97:((97:Int)<=n):=by omega
    have g65:((65:Int)<=n):=by omega
    have g48:((48:Int)<=n):=by omega
    have l122:¬((n:Int)<=122):=by omega
    have l90:¬((n:Int)<=90):=by omega
    have l57:¬((n:Int)<=57):=by omega
    have e95:¬((n:Int)=95):=by omega
    have e46:¬((n:Int)=46):=by omega
    have e45:¬((n:Int)=45):=by omega
    have e43:¬((n:Int)=43):=by omega
    have hs:j4 n=false:=by unfold j4;simp;omega
    simp (disch:=omega) [zz,hlt',hn,g97,g65,g48,l122,l90,l57,e95,e46,e45,e43,hs]
    (repeat with_reducible refine om ?_)
    refine hE _ _ (by simp) ?_
    simp (disch:=omega) [zz,Tryz.f161]
    exact hbad (by rw[hn];exact hs)
  ·have hlt':¬(k:Int)<l.length:=by omega
   simp (disch:=omega) [zz,hlt']
   refine hE _ _ (by simp) ?_
   rw[List.take_of_length_le (by omega)]at hall
   simp (disch:=omega) [zz,Tryz.f161,hpv,hall]
 ·have h4':(64:Int)<l.length:=by omega
  simp (disch:=omega) [zz,h1,h2,h3,h4',Tryz.f161,QT,h4]
end
end Go.Proofs.YtognnffjdckalaaGreatDoor
