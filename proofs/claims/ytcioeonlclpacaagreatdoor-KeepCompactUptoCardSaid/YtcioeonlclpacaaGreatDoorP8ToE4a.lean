/- path.May, path.Under. No condition beyond each theorem's own. -/
import Derived.Test.YtcioeonlclpacaaGreatDoorP1ToP7
import Derived.Test.YtcioeonlclpacaaGreatDoorB0
import Derived.Test.YtcioeonlclpacaaGreatDoorAbXToY
import Derived.Test.YtcioeonlclpacaaGreatDoorQ0ToP0
import Derived.Test.YtcioeonlclpacaaGreatDoorAbSToSk
set_option linter.unusedSimpArgs false
set_option linter.unusedVariables false
set_option linter.unusedSectionVars false
section
set_option maxRecDepth 100000
namespace Go.Proofs.YtcioeonlclpacaaGreatDoor
open Go Go.Ab
open Classical
variable [Sel]
@[simp] theorem zlY:qZ Tryz.prog 168=true:=by kernel_rfl
@[simp] theorem zpP:z8 Tryz.prog (.func 168)=false:=q9 zlY
@[simp] theorem zlj:qZ Tryz.prog 169=true:=by kernel_rfl
@[simp] theorem zq8:z8 Tryz.prog (.func 169)=false:=q9 zlj
def yV (l:List UInt8):Bool:=decide ((qT 47 l).length≤16)&&(qT 47 l).all Q0
theorem kU (c:UInt8):∀l x,x∈qT c l→x.length≤l.length
 | [],x,h=>by simp[qT]at h;simp[h]
 | b::l,x,h=>by
  unfold qT at h
  split at h
  ·rcases List.mem_cons.1 h with rfl|h
   ·simp
   ·have:=kU c l x h;simp;omega
  ·cases hs:qT c l with
   | nil=>exact absurd hs (JJ c l)
   | cons y r =>
    rw[hs]at h
    rcases List.mem_cons.1 h with rfl|h
    ·have:=kU c l y (by rw[hs];simp);simp;omega
    ·have:=kU c l x (by rw[hs];simp[h]);simp;omega
abbrev ziU:Cfg:=⟨fun n=>n==2||n==3,fun _=>false⟩
def zrP (l:List UInt8) (b2 b3:Nat) (k:Nat) (H:q8):Prop :=
 k≤16∧(∀i,i<k→∀x,(qT 47 l)[i]?=some x→Q0 x=true)∧H=[(b3,.var (.int .i64) (.i .i64 k)),(b2,.var .bool (.b false))]
def zrU (l:List UInt8) (b2 b3:Nat) (r:Loop) (H:q8):Prop :=
 yV l=false∧r.state=.done∧r.pending=some .ret∧∃n,H=[(b3,.var (.int .i64) (.i .i64 n)),(b2,.var .bool (.b false))]
set_option maxHeartbeats 8000000 in
theorem DL (l:List UInt8) (hl:l.length≤9223372036854775807):PC Tryz.prog 168 [.av .str (.s l)] (.av .bool (.b (yV l))):=by
 refine zow Tryz.func168 ziU fun imm0 w0=>?_
 simp (disch:=omega) [zz]
 intro b2 b3 hb3
 refine qE (R:=zgO l) [] [(b3,.var (.int .i64) (.i .i64 0)),(b2,.var .bool (.b false))] (by simp) rfl (by simp[qQ]) (by simp) ?_ ?_
 ·exact q7.args (zdH l) (by simp[qS,TV.er,AV.er,coC])
 rintro r H' ⟨c1,c2,c3,rfl,rfl⟩ hnd
 refine⟨_,HSub.refl _,?_⟩
 simp (disch:=omega) [zz]
 refine d7 rfl rfl (c1:=c1) (c2:=c2) (c3:=c3) hl (Hr:=[(b3,.var (.int .i64) (.i .i64 0)),(b2,.var .bool (.b false))]) rfl ?_ rfl rfl (by simp) ?_
 ·simp only[Y5]
  exact List.Perm.trans (List.Perm.swap _ _ _) (List.Perm.cons _ (List.Perm.swap _ _ _))
 intro y D r i0 w0' hy hready hpend
 simp at hy
 obtain⟨_,_,_,hy3,hy2⟩:=hy
 have hy3':¬b3=y:=fun e=>hy3 e.symm
 have hy2':¬b2=y:=fun e=>hy2 e.symm
 have hb3':¬b2=b3:=fun e=>hb3 e.symm
 refine⟨zrP l b2 b3,zrU l b2 b3,?_,?_,?_,?_,?_,?_⟩
 ·rintro k H ⟨_,_,rfl⟩;rfl
 ·rintro k H ⟨_,_,_,n,rfl⟩;rfl
 ·exact⟨by omega,fun i h=>by omega,rfl⟩
 ·rintro k x H hx ⟨hk,hall,rfl⟩ imm w
  have hxl:x.length≤9223372036854775807:=Nat.le_trans (kU 47 l x (List.mem_of_getElem? hx)) hl
  refine qM (cf:=ziU) laid mixed _ _ _ (by kernel_rfl) ?_
  simp (disch:=omega) [zz,QW,yL,vS]
  refine qM (cf:=ziU) laid mixed _ _ _ (by kernel_rfl) ?_
  have hlt:k<(qT 47 l).length:=(List.getElem?_eq_some_iff.1 hx).1
  by_cases h16:k<16
  ·have h1:¬(16:Int)<(k:Int)+1:=by omega
   simp (disch:=omega) [zz,QW,yL,vS,hy3,hy3',hy2,hy2',hb3,hb3',h1]
   refine zcv (zmc x hxl) ?_
   cases hp:Q0 x
   ·simp (disch:=omega) [zz,hy3,hy3',hy2,hy2',hb3,hb3',WR,uV,ziq]
    refine⟨_,_,⟨rfl,rfl⟩,?_,rfl,rfl,_,rfl⟩
    simp only[yV,Bool.and_eq_false_iff]
    right
    rw[List.all_eq_false]
    exact⟨x,List.mem_of_getElem? hx,by simp[hp]⟩
   ·simp (disch:=omega) [zz,hy3,hy3',hy2,hy2',hb3,hb3',WR,uV,ziq]
    refine⟨_,⟨congrArg (fun r=>HObj.lrec r i0 w0') (u7 hready hpend),rfl⟩,by omega,?_,by simp⟩
    intro i hi x' hx'
    rcases Nat.lt_or_ge i k with h|h
    ·exact hall i h x' hx'
    ·have:i=k:=by omega
     subst this
     rw[hx]at hx';cases hx';exact hp
  ·have h1:(16:Int)<(k:Int)+1:=by omega
   simp (disch:=omega) [zz,QW,yL,vS,hy3,hy3',hy2,hy2',hb3,hb3',h1,WR,uV,ziq]
   refine⟨_,_,⟨rfl,rfl⟩,?_,rfl,rfl,_,rfl⟩
   simp only[yV,Bool.and_eq_false_iff]
   left
   simp;omega
 ·rintro H1 ⟨hk,hall,rfl⟩
  simp (disch:=omega) [zz]
  simp (disch:=omega) [zz,hb3,hb3',hy3,hy2,yV,Tryz.f168]
  refine⟨hk,fun x hx=>?_⟩
  obtain⟨i,hi⟩:=List.getElem?_of_mem hx
  exact hall i (List.getElem?_eq_some_iff.1 hi).1 x hi
 ·rintro r' H1 ⟨hm,h1,h2,n,rfl⟩
  refine⟨by rw[h1];simp,?_⟩
  rw[h2]
  simp only[PR]
  simp (disch:=omega) [zz,hb3,hb3',hm,Tryz.f168]
def zuT (l d:List UInt8):Bool:=yV l&&(decide (d=[])||(yV d&&Q8 l (d++[47])))
set_option maxHeartbeats 4000000 in
theorem zE6 (l d:List UInt8) (hl:l.length≤9223372036854775807) (hd:d.length≤1000):PC Tryz.prog 169 [.av .str (.s l),.av .str (.s d)] (.av .bool (.b (zuT l d))):=by
 refine zow Tryz.func169 cf0 fun imm0 w0=>?_
 simp (disch:=omega) [zz]
 refine zcv (DL l hl) ?_
 cases hm:yV l
 ·simp (disch:=omega) [zz,Tryz.f169,zuT,hm]
 by_cases he:d=[]
 ·simp (disch:=omega) [zz,he,Tryz.f169,zuT,hm]
 simp (disch:=omega) [zz,he]
 refine zcv (DL d (by omega)) ?_
 cases hm2:yV d
 ·simp (disch:=omega) [zz,Tryz.f169,zuT,hm,hm2,he]
 simp (disch:=omega) [zz,he]
 refine⟨by omega,?_⟩
 refine zcv (YW l (d++[47]) hl (by simp;omega)) ?_
 simp (disch:=omega) [zz,Tryz.f169,zuT,hm,hm2,he]
@[simp] theorem zoa:qZ Tryz.prog 99=true:=by kernel_rfl
@[simp] theorem zrC:z8 Tryz.prog (.func 99)=false:=q9 zoa
@[simp] theorem zlW:qZ Tryz.prog 100=true:=by kernel_rfl
@[simp] theorem zqZ:z8 Tryz.prog (.func 100)=false:=q9 zlW
@[simp] theorem znA:qZ Tryz.prog 45=true:=by kernel_rfl
@[simp] theorem zrT:z8 Tryz.prog (.func 45)=false:=q9 znA
@[simp] theorem zkP:qZ Tryz.prog 101=true:=by kernel_rfl
@[simp] theorem zqa:z8 Tryz.prog (.func 101)=false:=q9 zkP
@[simp] theorem zyr:qZ Tryz.prog 46=true:=by kernel_rfl
@[simp] theorem zyx:z8 Tryz.prog (.func 46)=false:=q9 zyr
theorem p6 (c b:UInt8):∀l,qT c (l++[b])=if b=c then qT c l++[[]] else(qT c l).set ((qT c l).length-1) (((qT c l)[(qT c l).length-1]?.getD [])++[b])
 | []=>by
  simp only[List.nil_append,qT]
  split<;>simp
 | x::l=>by
  have ih:=p6 c b l
  have hne:=JJ c l
  simp only[List.cons_append,qT]
  by_cases hx:x=c
  ·simp only[hx,if_true]
   rw[ih]
   by_cases hb:b=c
   ·simp[hb]
   ·simp only[hb,if_false]
    cases hs:qT c l with
    | nil=>exact absurd hs hne
    | cons y r=>simp
  ·simp only[hx,if_false]
   rw[ih]
   cases hs:qT c l with
   | nil=>exact absurd hs hne
   | cons y r =>
    by_cases hb:b=c
    ·simp[hb]
    ·simp only[hb,if_false]
     cases r with
     | nil=>simp
     | cons z q=>simp
def strs (l:List (List UInt8)):List AV:=l.map AV.s
abbrev zgq:Cfg:=⟨fun _=>false,fun n=>n==5||n==35⟩
def zid (l:List UInt8) (r:TV) (H':q8):Prop:=∃b cap rs,r=.av (.slice 9) (.msl b 9 0 (qT 47 l).length cap)∧H'=[(b,.var (.arr cap 9) (.agg (strs (qT 47 l++rs))))]∧(qT 47 l).length+rs.length=cap
theorem QQ (c:UInt8):∀l,(qT c l).length≤l.length+1
 | []=>by simp[qT]
 | b::l=>by
  have:=QQ c l
  unfold qT
  split
  ·simp;omega
  ·cases hs:qT c l with
   | nil=>simp
   | cons y r=>rw[hs]at this;simp at this ⊢;omega
@[simp] theorem zn2 (l:List (List UInt8)):(strs l).length=l.length:=by simp[strs]
theorem Z6 (a b:List (List UInt8)):strs (a++b)=strs a++strs b:=by simp[strs]
theorem YH {x:UInt8} {n:Nat} (hn:n<256) (h:¬x=UInt8.ofNat n):¬(x.toNat:Int)=n:=fun e=>h (by
 apply UInt8.toNat_inj.1
 simp[Nat.mod_eq_of_lt hn];omega)
@[simp] theorem zoN (l:List (List UInt8)):AV.erks (strs l)=strs l:=by simp[strs,AV.erks_eq,AV.erk,Function.comp_def]
@[simp] theorem zjB (l:List (List UInt8)):AV.ers (strs l)=strs l:=by simp[strs,AV.ers_eq,AV.er,Function.comp_def]
theorem zay (l:List (List UInt8)) (n:Nat):(strs l).take n=strs (l.take n):=by simp[strs,List.map_take]
theorem zgz (l:List (List UInt8)) (n:Nat):(strs l).drop n=strs (l.drop n):=by simp[strs,List.map_drop]
theorem YD (n:Nat):List.replicate n (AV.s [])=strs (List.replicate n []):=by simp[strs]
theorem zaf (x:List UInt8) (l:List (List UInt8)):AV.s x::strs l=strs (x::l):=rfl
set_option maxHeartbeats 8000000 in
theorem zfk (l:List UInt8) (hl:l.length≤1000000000):q7 Tryz.prog 99 [.av .str (.s l)] [] (zid l):=by
 refine zov Tryz.func99 zgq fun imm0 w0=>?_
 simp (disch:=omega) [zz]
 intro b0
 refine AT.loopV (α:=Nat × Nat × Nat × List (List UInt8) × List (List UInt8)) (fun x ver=>St.of [(0,.av .str (.s l)),(3,.av (.slice 9) (.msl x.2.1 9 0 x.2.2.2.1.length x.2.2.1)),(4,.av (.int .i64) (.i .i64 x.1))] [] ver [(x.2.1,.var (.arr x.2.2.1 9) (.agg (strs (x.2.2.2.1++x.2.2.2.2))))])
  (fun x=>x.1≤l.length∧x.2.2.2.1=qT 47 (l.take x.1)∧x.2.2.2.1.length+x.2.2.2.2.length=x.2.2.1) (fun x=>l.length-x.1) (0,b0,1,[[]],[]) ?_ ?_ ?_
 ·apply Le.of<;>simp[qU,qG,qO,qH,qP,qK,qF,qI,qJ,qN,strs]<;>try omega
 ·simp[qT]
 rintro⟨k,b,cap,ps,rest⟩ ver ⟨hk,hps,hcap⟩ KL hN hE
 simp only at hk hps hcap hN
 have hsl:=QQ 47 (l.take k)
 rw[←hps]at hsl
 simp at hsl
 have hne:ps≠[]:=by rw[hps];exact JJ _ _
 have hpos:0<ps.length:=List.length_pos_iff.2 hne
 have e1:(strs (ps++rest)).take ps.length=strs ps:=by rw[zay,List.take_left]
 have e2:(strs (ps++rest)).drop (ps.length+1)=strs (rest.drop 1):=by
  rw[zgz,List.drop_append,List.drop_eq_nil_of_le (by omega)]
  simp
 refine qM (cf:=zgq) laid mixed _ _ _ (by kernel_rfl) ?_
 by_cases hlt:k<l.length
 ·have hlt':(k:Int)<l.length:=by omega
  have hsn:=p6 47 l[k] (l.take k)
  rw[←List.take_succ_eq_append_getElem hlt,←hps]at hsn
  by_cases hc:l[k]=47
  ·rw[if_pos hc]at hsn
   simp (disch:=omega) [zz,hlt',hc,e1,e2]
   refine⟨by omega,⟨by omega,by omega⟩,fun hcp=>?_,fun hcp b' cap' hb' hcp'=>?_⟩
   ·refine hN _ (k+1,b,cap,ps++[[]],rest.drop 1) ?_ ⟨by omega,hsn.symm,by simp;omega⟩ (by simp;omega)
    apply Le.of<;>simp[qU,qG,qO,qH,qP,qK,qF,qI,qJ,qN,Z6,zaf,e1,e2]<;>try omega
   ·refine hN _ (k+1,b',cap',ps++[[]],List.replicate (cap'-(ps.length+1)) []) ?_ ⟨by omega,hsn.symm,by simp at hcp' ⊢;omega⟩ (by simp;omega)
    have hmin:min ps.length (ps.length+rest.length)=ps.length:=by omega
    apply Le.of<;>simp[qU,qG,qO,qH,qP,qK,qF,qI,qJ,qN,Z6,YD,zaf,e1,e2,hmin]<;>try omega
  ·rw[if_neg hc]at hsn
   have hc':¬(l[k].toNat:Int)=47:=by have:=YH (n:=47) (by omega) hc;simpa using this
   have e3:(strs (ps++rest))[ps.length-1]?=some (.s (ps[ps.length-1]?.getD [])):=by
    simp only[strs,List.getElem?_map]
    rw[List.getElem?_append_left (by omega),List.getElem?_eq_getElem (by omega)]
    rfl
   have e4:∀x,(strs (ps++rest)).set (ps.length-1) (.s x)=strs (ps.set (ps.length-1) x++rest):=by
    intro x
    rw[←List.set_append_left _ _ (by omega)]
    simp[strs,List.map_set]
   have e5:(l.take (k+1)).drop k=[l[k]]:=by
    rw[List.take_succ_eq_append_getElem hlt]
    exact List.drop_left' (by simp;omega)
   have e6:(ps[ps.length-1]?.getD []).length≤l.length:=by
    rw[List.getElem?_eq_getElem (by omega)]
    have:=kU 47 (l.take k) ps[ps.length-1] (by rw[←hps];exact List.getElem_mem _)
    simp at this ⊢;omega
   generalize hz:(ps[ps.length-1]?.getD [])=z at *
   simp (disch:=omega) [zz,hlt',hc',e1,e2,e3,e4,e5]
   (repeat with_reducible refine om ?_)
   refine hN _ (k+1,b,cap,ps.set (ps.length-1) (z++[l[k]]),rest) ?_ ⟨by omega,hsn.symm,by simp;omega⟩ (by simp;omega)
   apply Le.of<;>simp[qU,qG,qO,qH,qP,qK,qF,qI,qJ,qN,e4]<;>try omega
 ·have hlt':¬(k:Int)<l.length:=by omega
  simp (disch:=omega) [zz,hlt']
  refine hE _ _ (by simp) ?_
  have hkl:l.take k=l:=List.take_of_length_le (by omega)
  rw[hkl]at hps
  simp (disch:=omega) [zz,Tryz.f99,zid,←hps]
  exact⟨_,_,⟨rfl,rfl⟩,rest,⟨rfl,rfl,rfl⟩,hcap⟩
theorem u9 (l:List UInt8) (hl:l.length≤1000000000):PC Tryz.prog 99 [.av .str (.s l)] (.av (.slice 9) (.sl .no (strs (qT 47 l)))):=by
 refine(zfk l hl).freeze laid ?_
 rintro r H' ⟨b,cap,rs,rfl,rfl,hc⟩ _
 left
 refine⟨b,cap,9,_,[],List.Perm.refl _,?_,rfl⟩
 simp only[zho,fzA]
 rw[if_pos ⟨trivial,trivial,by omega,by omega⟩]
 simp[zay]
theorem uC (a b:List AV):AV.erks (a++b)=AV.erks a++AV.erks b:=by simp[AV.erks_eq]
def JK (j:List AV):Prop:=AV.erks j=j
theorem JK.app {a b:List AV} (ha:JK a) (hb:JK b):JK (a++b):=by unfold JK at *;rw[uC,ha,hb]
theorem JK.nil:JK []:=rfl
theorem JK.take {a:List AV} (h:JK a) (n:Nat):JK (a.take n):=by
 unfold JK at *;rw[AV.erks_eq]at *;rw[List.map_take,h]
theorem JK.drop {a:List AV} (h:JK a) (n:Nat):JK (a.drop n):=by
 unfold JK at *;rw[AV.erks_eq]at *;rw[List.map_drop,h]
theorem JK.rep {z:AV} (h:z.erk=z) (n:Nat):JK (List.replicate n z):=by
 unfold JK;rw[AV.erks_eq,List.map_replicate,h]
abbrev Txt:=List UInt8
noncomputable def kK (l:List Txt):List Txt:=l.mergeSort fun a b=>decide (a≤b)
def KF (ws:List Txt) (v:AV) (H:q8):Prop:=(ws=[]∧v=.sl .no []∧H=[])∨∃b cap j,JK j∧v=.msl b 9 0 ws.length cap∧ws.length+j.length=cap∧H=[(b,.var (.arr cap 9) (.agg (strs ws++j)))]
theorem VW (l:List Txt):AV.erks (strs l)=strs l:=by simp[strs,AV.erks_eq,AV.erk,Function.comp_def]
theorem qX (l:List Txt):(strs l).length=l.length:=by simp[strs]
theorem yH (p:List Txt) (k:Nat) (h:k<p.length):(strs p)[k]?=some (.s p[k]):=by simp[strs,List.getElem?_eq_getElem h]
theorem KF.er {ws:List Txt} {v:AV} {H:q8} (h:KF ws v H):H.er=H∧v.er=v:=by
 rcases h with⟨_,rfl,rfl⟩|⟨b,cap,j,hj,rfl,_,rfl⟩
 ·exact⟨rfl,rfl⟩
 ·refine⟨?_,rfl⟩
  simp only[q8.er_cons,q8.er_nil,HObj.er_var,AV.erk,uC,VW]
  rw[show AV.erks j=j from hj]
theorem JK.strs (l:List Txt):JK (strs l):=VW l
noncomputable def wY (cap:Nat) (ts:List Txt) (j:List AV):HObj:=.var (.arr cap 9) (.agg (strs ts++j))
theorem KE {cap:Nat} {ts:List Txt} {j:List AV} (h:JK j):(wY cap ts j).er=wY cap ts j:=by
 simp only[wY,HObj.er_var,AV.erk,uC,VW]
 rw[show AV.erks j=j from h]
def J7 {α:Type} (p:α→Bool) (xs:List α):Int:=match xs.findIdx? p with|some i=>i|none=>-1
theorem uL {α:Type} {p:α→Bool} {xs:List α} {k:Nat} (hlt:k<xs.length) (h0:∀x∈xs.take k,p x=false) (h1:p xs[k]=true):J7 p xs=k:=by
 have:xs.findIdx? p=some k:=by
  rw[List.findIdx?_eq_some_iff_getElem]
  refine⟨hlt,h1,fun j hj=>?_⟩
  rw[h0 _ (List.mem_take_iff_getElem.2 ⟨j,by omega,rfl⟩)];simp
 simp[J7,this]
theorem x9 {α:Type} {p:α→Bool} {xs:List α} (h0:∀x∈xs,p x=false):J7 p xs=-1:=by
 have:xs.findIdx? p=none:=by
  rw[List.findIdx?_eq_none_iff];exact h0
 simp[J7,this]
theorem YV {α:Type} (p:α→Bool) (xs:List α):(J7 p xs=-1∧∀x∈xs,p x=false)∨∃(i:Nat) (h:i<xs.length),J7 p xs=i∧p xs[i]=true∧∀x∈xs.take i,p x=false:=by
 unfold J7
 cases h:xs.findIdx? p with
 | none =>
  left;rw[List.findIdx?_eq_none_iff]at h
  exact⟨rfl,h⟩
 | some i =>
  right
  rw[List.findIdx?_eq_some_iff_getElem]at h
  obtain⟨hl,hp,hn⟩:=h
  refine⟨i,hl,rfl,hp,fun x hx=>?_⟩
  obtain⟨q,hq,rfl⟩:=List.mem_take_iff_getElem.1 hx
  simpa using hn q (by omega)
theorem zgc (A M:List AV) (m y:AV):(A++(m::M)).set A.length y=A++(y::M):=by
 rw[List.set_append_right _ _ (Nat.le_refl _)];simp
@[simp] theorem zkp:qZ Tryz.prog 146=true:=by kernel_rfl
@[simp] theorem zqB:z8 Tryz.prog (.func 146)=false:=q9 zkp
@[simp] theorem zA7:qZ Tryz.prog 182=true:=by kernel_rfl
@[simp] theorem zB7:z8 Tryz.prog (.func 182)=false:=q9 zA7
theorem zfj (ts:List Txt) (x:Txt) (hn:ts.length≤1000000000):PC Tryz.prog 182 [.av (.slice 9) (.sl .no (strs ts)),.av .str (.s x)] (.av (.int .i64) (.i .i64 (J7 (fun y=>decide (y=x)) ts))):=by
 refine zow Tryz.func182 cf0 fun imm0 w0=>?_
 simp (disch:=omega) [zz]
 refine AT.loop' (α:=Nat) (fun k=>St.of [(0,.av (.slice 9) (.sl .no (strs ts))),(1,.av .str (.s x)),(7,.av (.int .i64) (.i .i64 ts.length)),(8,.av (.int .i64) (.i .i64 k))] [] (fun _=>0) [])
  (fun k=>k≤ts.length∧∀y∈ts.take k,(fun y=>decide (y=x)) y=false) (fun k=>ts.length-k) 0 ?_ ?_ ?_
 ·apply Le.of<;>simp[qU,qG]
 ·simp
 rintro k ⟨hk',hpk⟩ KL hN hE
 refine qM (cf:=cf0) laid mixed _ _ _ (by kernel_rfl) ?_
 by_cases hlt:k<ts.length
 ·have hlt':(k:Int)<ts.length:=by omega
  have hg:=yH ts k hlt
  by_cases hp:ts[k]=x
  ·have hp':x=ts[k]:=hp.symm
   have hi:=uL (p:=fun y=>decide (y=x)) hlt hpk (by simpa using hp)
   generalize ts[k]=y at *
   subst hp
   simp (disch:=omega) [zz,hlt',hg]
   refine hE _ _ (by simp) ?_
   simp (disch:=omega) [zz,Tryz.f182,hi]
  ·have hp':¬x=ts[k]:=fun e=>hp e.symm
   simp (disch:=omega) [zz,hlt',hg,hp']
   refine hN _ (k+1) ?_ ⟨by omega,by rw[Z2 hlt];exact⟨hpk,by simpa using hp⟩⟩ (by omega)
   apply Le.of<;>simp[qU,qG]
 ·have hlt':¬(k:Int)<ts.length:=by omega
  simp (disch:=omega) [zz,hlt']
  refine hE _ _ (by simp) ?_
  rw[List.take_of_length_le (by omega)]at hpk
  simp (disch:=omega) [zz,Tryz.f182,x9 (p:=fun y=>decide (y=x)) hpk]
theorem JP (ts:List Txt) (x:Txt) (hn:ts.length≤1000000000):PC Tryz.prog 146 [.av (.slice 9) (.sl .no (strs ts)),.av .str (.s x)] (.av .bool (.b (decide (x∈ts)))):=by
 refine zow Tryz.func146 cf0 fun imm0 w0=>?_
 simp (disch:=omega) [zz]
 refine zcv (zfj ts x hn) ?_
 rcases YV (fun y=>decide (y=x)) ts with⟨he,hall⟩|⟨i,hi,he,hs,_⟩
 ·have:¬x∈ts:=fun h=>by have:=hall x h;simp at this
  simp (disch:=omega) [zz,he,this,Tryz.f146]
 ·have h1:x∈ts:=by simp at hs;rw[←hs];exact List.getElem_mem hi
  have h2:(0:Int)≤i:=by omega
  simp (disch:=omega) [zz,he,h1,h2,Tryz.f146]
end Go.Proofs.YtcioeonlclpacaaGreatDoor
end
section
set_option maxRecDepth 100000
namespace Go.Proofs.YtcioeonlclpacaaGreatDoor
open Go Go.Ab
open Classical
variable [Sel] [SelPow]
@[simp] theorem zAx:qZ Tryz.prog 11=true:=by kernel_rfl
@[simp] theorem zBn:z8 Tryz.prog (.func 11)=false:=q9 zAx
@[simp] theorem zAy:qZ Tryz.prog 84=true:=by kernel_rfl
@[simp] theorem zBm:z8 Tryz.prog (.func 84)=false:=q9 zAy
@[simp] theorem zwL:qZ Tryz.prog 35=true:=by kernel_rfl
@[simp] theorem zxy:z8 Tryz.prog (.func 35)=false:=q9 zwL
@[simp] theorem zlF:qZ Tryz.prog 110=true:=by kernel_rfl
@[simp] theorem zqu:z8 Tryz.prog (.func 110)=false:=q9 zlF
@[simp] theorem zkI:qZ Tryz.prog 155=true:=by kernel_rfl
@[simp] theorem zqD:z8 Tryz.prog (.func 155)=false:=q9 zkI
@[simp] theorem zld:qZ Tryz.prog 150=true:=by kernel_rfl
@[simp] theorem zqk:z8 Tryz.prog (.func 150)=false:=q9 zld
@[simp] theorem zG9:qZ Tryz.prog 40=true:=by kernel_rfl
@[simp] theorem zGE:z8 Tryz.prog (.func 40)=false:=q9 zG9
@[simp] theorem zoF:qZ Tryz.prog 13=true:=by kernel_rfl
@[simp] theorem zrE:z8 Tryz.prog (.func 13)=false:=q9 zoF
abbrev zJB:TyD:=.struct [107,3]
def nmK:List UInt8:=[107,101,101,112]
def nmN:List UInt8:=[107,101,101,112,46,110,101,119]
def nmB (b:Bool):List UInt8:=if b then nmN else nmK
def flF (f:FV):AV:=.agg [.s f.data,.i .i64 f.sure]
def flE (l:List (List UInt8 × FV)):List (AV × AV):=l.map fun p=>(AV.s p.1,flF p.2)
noncomputable def flO (l:List (List UInt8 × FV)):HObj:=.map 9 125 (flE l)
def zMd (nm:List UInt8):Option FV→List (List UInt8 × FV)
 | none=>[]
 | some f=>[(nm,f)]
def ents (o:Bool) (d:DV):List (List UInt8 × FV):=if o then zMd nmN d.n++zMd nmK d.m else zMd nmK d.m++zMd nmN d.n
noncomputable def j4 (B M:Nat) (o:Bool) (d:DV):q8:=[(B,.var zJB (.agg [.map (some M),.i .i64 d.left])),(M,flO (ents o d))]
theorem zMs:¬nmK=nmN:=by decide
theorem zLv:¬nmN=nmK:=by decide
theorem zP0 (b:Bool):¬nmB b=[]:=by cases b<;>decide
theorem G6 (o b:Bool) (d:DV):yY (.s (nmB b)) (flE (ents o d))=(g5 b d).map flF:=by
 obtain⟨m,n,l⟩:=d
 cases o<;>cases b<;>cases m<;>cases n<;>simp[ents,zMd,flE,yY,nmB,g5,zMs,zLv]
theorem zKd (o b:Bool) (d:DV) (f:FV):∃o',xX (.s (nmB b)) (flF f) (flE (ents o d))=flE (ents o' (zJC b (some f) d)):=by
 obtain⟨m,n,l⟩:=d
 cases o<;>cases b<;>cases m<;>cases n<;>first
  | (refine⟨true,?_⟩;simp[ents,zMd,flE,xX,nmB,zJC,zMs,zLv];done)
  | (refine⟨false,?_⟩;simp[ents,zMd,flE,xX,nmB,zJC,zMs,zLv];done)
theorem zcW (o:Bool) (d:DV):zdc (.s nmN) (flE (ents o d))=flE (ents o ⟨d.m,none,d.left⟩):=by
 obtain⟨m,n,l⟩:=d
 cases o<;>cases m<;>cases n<;>simp[ents,zMd,flE,zdc,zMs,zLv]
theorem zJD (o:Bool) (d:DV) (c:Int):ents o { d with left:=c }=ents o d:=rfl
theorem zJi (l:List (List UInt8 × FV)):(flE l).map (fun p=>(p.1.er,p.2.er))=flE l:=by
 simp only[flE,List.map_map]
 refine List.map_congr_left fun p _=>?_
 simp[flF,AV.er,AV.ers]
@[simp] theorem zT3 (l:List (List UInt8 × FV)):(flO l).er=flO l:=by simp only[flO,HObj.er_map,zJi]
@[simp] theorem zLQ (B M:Nat) (o:Bool) (d:DV):(j4 B M o d).er=j4 B M o d:=by
 simp[j4,q8.er_cons,q8.er_nil,HObj.er_var,AV.erk,AV.erks]
abbrev zTz:Cfg:=⟨fun n=>n==3,fun _=>false⟩
theorem zNl:q7 Tryz.prog 11 [] [] fun r H'=>∃B M,M≠B∧r=.av .ptr (.ptr B zJB [])∧H'=j4 B M false zJe:=by
 refine zov Tryz.func11 zTz fun imm0 w0=>?_
 simp (disch:=omega) [zz]
 intro M B hB
 simp (disch:=omega) [zz,Tryz.f11]
 exact⟨B,M,fun e=>hB e.symm,rfl,by simp[j4,flO,flE,ents,zMd,zJe]⟩
def zJg (th:Bool) (b:Bool) (d:DV):Int:=if th=true∧g5 b d=none then 10 else if d.left=0 then 18 else 0
def nms (b:Bool) (o:Option Bool):List (List UInt8):=match o with
 | none=>[nmB b]
 | some c=>[nmB b,nmB c]
theorem zRL (b:Bool) (o:Option Bool):¬[]∈nms b o:=by
 cases o with
 | none=>simp[nms,zP0]
 | some c=>simp[nms,zP0]
set_option maxHeartbeats 4000000 in
theorem zPx (B M:Nat) (hBM:M≠B) (o:Bool) (d:DV) (hd:DOK d) (th b:Bool) (c:Option Bool) :
  q7 Tryz.prog 84 [.av .ptr (.ptr B zJB []),.av .bool (.b th),.av (.slice 9) (.sl .no (strs (nms b c)))] (j4 B M o d) fun r H'=>r=.av (.int .i64) (.i .i64 (zJg th b d))∧H'=j4 B M o (if zJg th b d=0 then c7 d else d):=by
 have hBM':¬B=M:=fun e=>hBM e.symm
 have hfd:=G6 o b d
 have hnl:=zRL b c
 obtain⟨rs,hrs,hlen⟩:∃rs,nms b c=nmB b::rs∧rs.length≤1:=by
  cases c with
  | none=>exact⟨[],rfl,by simp⟩
  | some c=>exact⟨[nmB c],rfl,by simp⟩
 rw[hrs]at hnl ⊢
 have hcn:=JP (nmB b::rs) [] (by simp;omega)
 rw[decide_eq_false hnl]at hcn
 have hst:strs (nmB b::rs)=.s (nmB b)::strs rs:=rfl
 rw[hst]at hcn ⊢
 obtain⟨_,_,hlo,hhi⟩:=hd
 refine zov Tryz.func84 cf0 fun imm0 w0=>?_
 cases hg:g5 b d with
 | none =>
  rw[hg]at hfd
  simp only[Option.map_none]at hfd
  simp (disch:=omega) [zz,j4,flO,hBM,hBM',hfd]
  (repeat with_reducible refine om ?_)
  refine zcv hcn ?_
  cases th
  ·by_cases hl0:d.left=0
   ·simp (disch:=omega) [zz,hl0,zJg,Tryz.f84,zJi,Tok.k]
   ·have hlt:¬(0:Int)=d.left:=fun e=>hl0 e.symm
    by_cases hp:0<d.left
    ·simp (disch:=omega) [zz,hl0,hp,hBM,hBM',zJg,c7,Tryz.f84,zJi,Tok.k,zJD]
    ·simp (disch:=omega) [zz,hl0,hp,hBM,hBM',zJg,c7,Tryz.f84,zJi,Tok.k,zJD]
  ·simp (disch:=omega) [zz,Tryz.f84,zJg,hg,zJi,Tok.k]
 | some f =>
  rw[hg]at hfd
  simp only[Option.map_some]at hfd
  simp (disch:=omega) [zz,j4,flO,hBM,hBM',hfd,flF]
  (repeat with_reducible refine om ?_)
  refine zcv hcn ?_
  by_cases hl0:d.left=0
  ·cases th
   ·simp (disch:=omega) [zz,hl0,zJg,hg,Tryz.f84,zJi,Tok.k]
   ·simp (disch:=omega) [zz,hl0,zJg,hg,Tryz.f84,zJi,Tok.k]
  ·by_cases hp:0<d.left
   ·cases th
    ·simp (disch:=omega) [zz,hl0,hp,hBM,hBM',zJg,hg,c7,Tryz.f84,zJi,Tok.k,zJD]
    ·simp (disch:=omega) [zz,hl0,hp,hBM,hBM',zJg,hg,c7,Tryz.f84,zJi,Tok.k,zJD]
   ·cases th
    ·simp (disch:=omega) [zz,hl0,hp,hBM,hBM',zJg,hg,c7,Tryz.f84,zJi,Tok.k,zJD]
    ·simp (disch:=omega) [zz,hl0,hp,hBM,hBM',zJg,hg,c7,Tryz.f84,zJi,Tok.k,zJD]
theorem zLr (b:Bool) (d:DV):g5 b (c7 d)=g5 b d:=by cases b<;>rfl
theorem zJZ (th b:Bool) (d:DV):(zJg th b d=0∧d.left≠0∧(th=true→g5 b d≠none))∨(zJg th b d=10∧th=true∧g5 b d=none)∨(zJg th b d=18∧d.left=0∧(th=true→g5 b d≠none)):=by
 unfold zJg
 by_cases h:th=true∧g5 b d=none
 ·rw[if_pos h];exact .inr (.inl ⟨rfl,h.1,h.2⟩)
 ·rw[if_neg h]
  by_cases hl:d.left=0
  ·rw[if_pos hl];exact .inr (.inr ⟨rfl,hl,fun h1 h2=>h ⟨h1,h2⟩⟩)
  ·rw[if_neg hl];exact .inl ⟨rfl,hl,fun h1 h2=>h ⟨h1,h2⟩⟩
def zJN (B M:Nat) (d:DV) (H:q8):Prop:=∃o,H=j4 B M o d
theorem zJN.of {B M:Nat} {o:Bool} {d:DV}:zJN B M d (j4 B M o d):=⟨o,rfl⟩
theorem zJN.ents {B M:Nat} {o:Bool} {d:DV}:zJN B M d [(B,.var zJB (.agg [.map (some M),.i .i64 d.left])),(M,.map 9 125 (flE (ents o d)))]:=⟨o,rfl⟩
theorem zK7 {s:St} {dst:Option Nat} {K:St→Prop} {args:List TV} (B M:Nat) (hBM:M≠B) (o:Bool) (d:DV) (hd:DOK d) (th b:Bool) (c:Option Bool) (hH:s.H=j4 B M o d) (ha:args.all qQ=true)
  (hx:qS (args.map TV.er) [.av .ptr (.ptr B zJB []),.av .bool (.b th),.av (.slice 9) (.sl .no (strs (nms b c)))])
  (hk:K (({ s with H:=j4 B M o (if zJg th b d=0 then c7 d else d) }:St).put dst (.av (.int .i64) (.i .i64 (zJg th b d))))) :
  ZP Tryz.prog s (.av .func (.fn 84 [])) args dst K:=by
 refine qE (j4 B M o d) [] (by rw[hH];simp) rfl ha (by simp) (R:=fun r H'=>r=.av (.int .i64) (.i .i64 (zJg th b d))∧H'=j4 B M o (if zJg th b d=0 then c7 d else d)) ?_ ?_
 ·rw[zLQ]
  exact q7.args (zPx B M hBM o d hd th b c) (by simpa using hx)
 rintro r' H' ⟨rfl,rfl⟩ _
 refine⟨_,HSub.refl _,?_⟩
 rw[List.append_nil]
 exact hk
set_option maxHeartbeats 4000000 in
theorem zM2 (B M:Nat) (hBM:M≠B) (o:Bool) (d:DV) (hd:DOK d) (b:Bool) (x:List UInt8) (hx:szF (g5 b d)+x.length≤1000000000000) :
  q7 Tryz.prog 35 [.av .ptr (.ptr B zJB []),.av .str (.s (nmB b)),.av .str (.s x)] (j4 B M o d) fun r H'=>r=.av (.int .i64) (.i .i64 (kW b x d).2)∧zJN B M (kW b x d).1 H':=by
 have hBM':¬B=M:=fun e=>hBM e.symm
 obtain⟨o',hput⟩:=zKd o b (c7 d) (zKf x (g5 b d))
 have hfd:=G6 o b (c7 d)
 rw[zLr]at hfd
 refine zov Tryz.func35 cf0 fun imm0 w0=>?_
 simp (disch:=omega) [zz]
 refine zK7 B M hBM o d hd false b none (by simp) (by simp[qQ]) (by simp[qS,coC,TV.er,AV.er,AV.ers,nms,strs]) ?_
 rcases zJZ false b d with⟨h1,h2,_⟩|⟨_,h2,_⟩|⟨h1,h2,_⟩
 ·have hap:kW b x d=(zJC b (some (zKf x (g5 b d))) (c7 d),0):=by unfold kW;rw[if_neg h2]
  have hr:=zJN.ents (B:=B) (M:=M) (o:=o') (d:=zJC b (some (zKf x (g5 b d))) (c7 d))
  have hlf:(zJC b (some (zKf x (g5 b d))) (c7 d)).left=(c7 d).left:=by cases b<;>rfl
  rw[hlf]at hr
  cases hg:g5 b d with
  | none =>
   rw[hg]at hfd hput hx hap hr
   simp only[Option.map_none]at hfd
   simp only[szF,zKf,flF]at hput hx hap hr
   rw[show ((0:Nat):Int)=0 from rfl]at hput
   simp (disch:=omega) [zz,h1,j4,flO,hBM,hBM',hfd,hput,hap]
   (repeat with_reducible refine om ?_)
   simp (disch:=omega) [zz,Tryz.f35,zJi,hap,hr]
  | some f =>
   rw[hg]at hfd hput hx hap hr
   simp only[Option.map_some,flF]at hfd
   simp only[szF,zKf,flF]at hput hx hap hr
   simp (disch:=omega) [zz,h1,j4,flO,hBM,hBM',hfd,hput,hap]
   (repeat with_reducible refine om ?_)
   simp (disch:=omega) [zz,Tryz.f35,zJi,hap,hr]
 ·cases h2
 ·have hap:kW b x d=(d,18):=by unfold kW;rw[if_pos h2]
  simp (disch:=omega) [zz,h1,hap,Tryz.f35,zJN.of]
set_option maxHeartbeats 4000000 in
theorem zNC (B M:Nat) (hBM:M≠B) (o:Bool) (d:DV) (hd:DOK d) (b:Bool) (hx:szF (g5 b d)≤1000000000000) :
  q7 Tryz.prog 110 [.av .ptr (.ptr B zJB []),.av .str (.s (nmB b))] (j4 B M o d) fun r H'=>r=.av (.int .i64) (.i .i64 (c8 b d).2)∧zJN B M (c8 b d).1 H':=by
 have hBM':¬B=M:=fun e=>hBM e.symm
 have hfd:=G6 o b (c7 d)
 rw[zLr]at hfd
 refine zov Tryz.func110 cf0 fun imm0 w0=>?_
 simp (disch:=omega) [zz]
 refine zK7 B M hBM o d hd true b none (by simp) (by simp[qQ]) (by simp[qS,coC,TV.er,AV.er,AV.ers,nms,strs]) ?_
 rcases zJZ true b d with⟨h1,h2,h3⟩|⟨h1,_,h3⟩|⟨h1,h2,h3⟩
 ·cases hg:g5 b d with
  | none=>exact absurd hg (h3 rfl)
  | some f =>
   have hap:c8 b d=(zJC b (some ⟨f.data,f.data.length⟩) (c7 d),0):=by unfold c8;rw[hg];simp only;rw[if_neg h2]
   obtain⟨o',hput⟩:=zKd o b (c7 d) ⟨f.data,f.data.length⟩
   have hr:=zJN.ents (B:=B) (M:=M) (o:=o') (d:=zJC b (some ⟨f.data,f.data.length⟩) (c7 d))
   have hlf:(zJC b (some ⟨f.data,f.data.length⟩) (c7 d)).left=(c7 d).left:=by cases b<;>rfl
   rw[hlf]at hr
   rw[hg]at hfd hx
   simp only[Option.map_some,flF]at hfd
   simp only[szF,flF]at hput hx
   simp (disch:=omega) [zz,h1,j4,flO,hBM,hBM',hfd,hput,hap]
   (repeat with_reducible refine om ?_)
   simp (disch:=omega) [zz,Tryz.f110,zJi,hap,hr]
 ·have hap:c8 b d=(d,10):=by unfold c8;rw[h3]
  simp (disch:=omega) [zz,h1,hap,Tryz.f110,zJN.of]
 ·cases hg:g5 b d with
  | none=>exact absurd hg (h3 rfl)
  | some f =>
   have hap:c8 b d=(d,18):=by unfold c8;rw[hg];simp only;rw[if_pos h2]
   simp (disch:=omega) [zz,h1,hap,Tryz.f110,zJN.of]
set_option maxHeartbeats 4000000 in
theorem zOo (B M:Nat) (hBM:M≠B) (o:Bool) (d:DV) (hd:DOK d) :
  q7 Tryz.prog 150 [.av .ptr (.ptr B zJB []),.av .str (.s nmN)] (j4 B M o d) fun r H'=>r=.av (.int .i64) (.i .i64 (zJd d).2)∧zJN B M (zJd d).1 H':=by
 have hBM':¬B=M:=fun e=>hBM e.symm
 have PV:=zcW o (c7 d)
 have hr:=zJN.ents (B:=B) (M:=M) (o:=o) (d:=⟨d.m,none,(c7 d).left⟩)
 refine zov Tryz.func150 cf0 fun imm0 w0=>?_
 simp (disch:=omega) [zz]
 refine zK7 B M hBM o d hd true true none (by simp) (by simp[qQ]) (by simp[qS,coC,TV.er,AV.er,AV.ers,nms,strs,nmB]) ?_
 rcases zJZ true true d with⟨h1,h2,h3⟩|⟨h1,_,h3⟩|⟨h1,h2,h3⟩
 ·have hap:zJd d=(⟨d.m,none,(c7 d).left⟩,0):=by
   unfold zJd
   cases hn:d.n with
   | none=>exact absurd hn (h3 rfl)
   | some f=>simp only;rw[if_neg h2]
  simp only[zSn]at PV
  simp (disch:=omega) [zz,h1,j4,flO,hBM,hBM',PV,hap,Tryz.f150,zJi,hr]
 ·have hap:zJd d=(d,10):=by unfold zJd;rw[show d.n=none from h3]
  simp (disch:=omega) [zz,h1,hap,Tryz.f150,zJN.of]
 ·have hap:zJd d=(d,18):=by
   unfold zJd
   cases hn:d.n with
   | none=>exact absurd hn (h3 rfl)
   | some f=>simp only;rw[if_pos h2]
  simp (disch:=omega) [zz,h1,hap,Tryz.f150,zJN.of]
set_option maxHeartbeats 4000000 in
theorem zOv (B M:Nat) (hBM:M≠B) (o:Bool) (d:DV) (hd:DOK d) :
  q7 Tryz.prog 155 [.av .ptr (.ptr B zJB []),.av .str (.s nmN),.av .str (.s nmK)] (j4 B M o d) fun r H'=>r=.av (.int .i64) (.i .i64 (zb1 d).2)∧zJN B M (zb1 d).1 H':=by
 have hBM':¬B=M:=fun e=>hBM e.symm
 have hfd:=G6 o true (c7 d)
 rw[zLr]at hfd
 refine zov Tryz.func155 cf0 fun imm0 w0=>?_
 simp (disch:=omega) [zz]
 refine zK7 B M hBM o d hd true true (some false) (by simp) (by simp[qQ]) (by simp[qS,coC,TV.er,AV.er,AV.ers,nms,strs,nmB]) ?_
 rcases zJZ true true d with⟨h1,h2,h3⟩|⟨h1,_,h3⟩|⟨h1,h2,h3⟩
 ·cases hn:d.n with
  | none=>exact absurd hn (h3 rfl)
  | some f =>
   have hap:zb1 d=(⟨some f,none,(c7 d).left⟩,0):=by
    unfold zb1;rw[hn];simp only;rw[if_neg h2]
   have hg:g5 true d=some f:=hn
   rw[hg]at hfd
   obtain⟨o',hput⟩:=zKd o false (c7 d) f
   have PV:=zcW o' (zJC false (some f) (c7 d))
   have hr:=zJN.ents (B:=B) (M:=M) (o:=o') (d:=⟨some f,none,(c7 d).left⟩)
   simp only[Option.map_some,flF,nmB,if_true,Bool.false_eq_true,if_false]at hfd hput
   simp only[zJC,Bool.false_eq_true,if_false]at PV hput
   simp (disch:=omega) [zz,h1,j4,flO,hBM,hBM',hfd,hput,hap,zLv]
   (repeat with_reducible refine om ?_)
   simp (disch:=omega) [zz,Tryz.f155,PV,zJi,hap,hr,hBM,hBM']
 ·have hap:zb1 d=(d,10):=by unfold zb1;rw[show d.n=none from h3]
  simp (disch:=omega) [zz,h1,hap,Tryz.f155,zJN.of]
 ·have hap:zb1 d=(d,18):=by
   unfold zb1
   cases hn:d.n with
   | none=>exact absurd hn (h3 rfl)
   | some f=>simp only;rw[if_pos h2]
  simp (disch:=omega) [zz,h1,hap,Tryz.f155,zJN.of]
theorem zR8 (B M:Nat) (hBM:M≠B) (o b:Bool) (d:DV) :
  q7 Tryz.prog 40 [.av .ptr (.ptr B zJB []),.av .str (.s (nmB b))] (j4 B M o d) fun r H'=>r=.tup [(.str,.s (zK6 (g5 b d))),(.int .i64,.i .i64 (if g5 b d=none then 10 else 0))]∧H'=j4 B M o d:=by
 have hBM':¬B=M:=fun e=>hBM e.symm
 have hfd:=G6 o b d
 refine zov Tryz.func40 cf0 fun imm0 w0=>?_
 cases hg:g5 b d with
 | none =>
  rw[hg]at hfd
  simp only[Option.map_none]at hfd
  simp (disch:=omega) [zz,j4,flO,hBM,hBM',hfd,Tryz.f40,zJi,zK6]
 | some f =>
  rw[hg]at hfd
  simp only[Option.map_some,flF]at hfd
  simp (disch:=omega) [zz,j4,flO,hBM,hBM',hfd,Tryz.f40,zJi,zK6]
theorem zOb (B M:Nat) (hBM:M≠B) (o:Bool) (d:DV) (n:Int) :
  q7 Tryz.prog 13 [.av .ptr (.ptr B zJB []),.av (.int .i64) (.i .i64 n)] (j4 B M o d) fun r H'=>r=.tup []∧H'=j4 B M o (zJs n d):=by
 have hBM':¬B=M:=fun e=>hBM e.symm
 refine zov Tryz.func13 cf0 fun imm0 w0=>?_
 by_cases h:n < -1
 ·have e:max n (-1)=-1:=by omega
  simp (disch:=omega) [zz,j4,flO,hBM,hBM',Tryz.f13,zJi,zJs,h,zJD,e]
 ·have e:max n (-1)=n:=by omega
  simp (disch:=omega) [zz,j4,flO,hBM,hBM',Tryz.f13,zJi,zJs,h,zJD,e]
end Go.Proofs.YtcioeonlclpacaaGreatDoor
end
section
set_option maxRecDepth 100000
namespace Go.Proofs.YtcioeonlclpacaaGreatDoor
open Go Go.Ab
open Classical
variable [Sel]
def xK (en:Array MapEntry) (ids:List Nat):Array Nat:=(ids.map fun i=>(en[i]?.map (·.born)).getD 0).toArray
theorem cV {en:Array MapEntry} {ck:Nat} (hst:yX en.toList ck) {ids:List Nat} (hids:∀i∈ids,i<en.size) {i:Nat} {me:MapEntry} (hi:en[i]?=some me):me.born∈xK en ids↔i∈ids:=by
 unfold xK
 rw[List.mem_toArray,List.mem_map]
 constructor
 ·rintro⟨j,hj,e⟩
  have hjs:=hids j hj
  rw[Array.getElem?_eq_getElem hjs]at e
  simp only[Option.map_some,Option.getD_some]at e
  obtain⟨his,rfl⟩:=Array.getElem?_eq_some_iff.1 hi
  have hnd:=hst.2
  have h1:(en.toList.map (·.born))[j]'(by simpa using hjs)=(en.toList.map (·.born))[i]'(by simpa using his):=by simpa using e
  have:=(List.getElem_inj hnd).1 h1
  rw[←this];exact hj
 ·intro h
  exact⟨i,h,by rw[hi];rfl⟩
theorem zdQ (en:Array MapEntry) (ids:List Nat) {i:Nat} {me:MapEntry} (hi:en[i]?=some me):(xK en ids).push me.born=xK en (ids++[i]):=by
 unfold xK
 apply Array.toList_inj.1
 simp[hi]
def XL (ks:List (List UInt8)) (ids:List Nat):List (List UInt8):=ids.map fun i=>(ks[i]?).getD []
theorem zdP {ks:List (List UInt8)} {ids:List Nat} (hn:ids.Nodup) (hlt:∀i∈ids,i<ks.length) (hall:∀i,i<ks.length→i∈ids):(XL ks ids).Perm ks:=by
 have h1:ids.Perm (List.range ks.length):=by
  rw[List.perm_ext_iff_of_nodup hn List.nodup_range]
  intro i
  rw[List.mem_range]
  exact⟨hlt i,hall i⟩
 have h2:(List.range ks.length).map (fun i=>(ks[i]?).getD [])=ks:=by
  refine List.ext_getElem (by simp) fun t h1 h2=>?_
  simp only[List.getElem_map,List.getElem_range]
  rw[List.getElem?_eq_getElem h2];rfl
 have:=h1.map (fun i=>(ks[i]?).getD ([]:Dig))
 rw[h2]at this
 exact this
theorem gK:∀(n:Nat) (l:List Nat),l.Nodup→(∀i∈l,i<n)→l.length≤n
 | 0,l,_,h=>by
  cases l with
  | nil=>simp
  | cons x r=>exact absurd (h x (by simp)) (Nat.not_lt_zero _)
 | n+1,l,hn,h=>by
  by_cases hm:n∈l
  ·have:=gK n (l.erase n) (hn.erase n) (fun i hi=>by
    have h1:=(List.Nodup.mem_erase_iff hn).1 hi
    have:=h i h1.2
    have:=h1.1
    omega)
   rw[List.length_erase_of_mem hm]at this
   omega
  ·have:=gK n l hn (fun i hi=>by
    have h1:=h i hi
    have:i≠n:=fun e=>hm (e▸hi)
    omega)
   omega
theorem q7.argNil {P:Program} {f:FuncId} {e:TypeId} {args:List TV} {H:q8} {R:TV→q8→Prop} (h:q7 P f (.av (.slice e) .nsl::args) H R):q7 P f (.cst (.slice none 0 0)::args) H R:=by
 intro imm w vs h1 h2
 refine h imm w vs h1 ?_
 obtain⟨vs⟩:=vs
 match vs,h2 with
 | v::r,⟨e1,e2⟩ =>
  have e1':v=.slice none 0 0:=e1
  subst e1'
  exact⟨⟨rfl,by simp[VC,Value.cells]⟩,e2⟩
theorem q7.nilR {P:Program} {f:FuncId} {args:List TV} {H:q8} {R R':TV→q8→Prop} (h:q7 P f args H R) (hr:∀r H',R r H'→R' r H'∨∃e,r=.av (.slice e) .nsl∧R' (.av (.slice e) (.sl .no [])) H'):q7 P f args H R' :=
 fun imm w vs h1 h2=>(h imm w vs h1 h2).mono fun e w' ⟨v,r,imm',H',a,b,c,d,st⟩=>by
  rcases hr _ _ b with h3|⟨e,rfl,h3⟩
  ·exact⟨v,r,imm',H',a,h3,c,d,st⟩
  ·obtain⟨f,hv⟩:=c
   simp only[VC]at hv
   obtain⟨_,_,hv⟩:=hv
   exact⟨v,_,imm',H',a,h3,⟨f,by simp only[VC];exact⟨e,none,0,rfl,hv,by simp,by simp[U9]⟩⟩,d,st⟩
theorem zeS {P:Program} {l:Nat} {args:List TV} {H:q8} {R R':TV→q8→Prop} (h:YC P l args H R) (hr:∀r H',R r H'→H'.keys.Nodup→∃H'':q8,Ab.HSub H'' H'∧R' r H''):YC P l args H R':=by
 intro imm w vs h1 h2
 obtain⟨f,tmps,as',bo,h3,h4⟩:=h imm w vs h1 h2
 refine⟨f,tmps,as',bo,h3,RoundIn.mono h4 ?_⟩
 rintro e w' ⟨v,r,imm',H',a,b,c,d,st⟩
 obtain⟨H'',hs,hR⟩:=hr _ _ b d.nodup
 exact⟨v,r,imm',H'',a,hR,c,⟨d.imm,hs.nodup d.nodup,fun b o ho=>d.obj b o (hs.subset ho),d.tab⟩,⟨st.os,st.tape,st.output,st.size,st.frame,st.imm,st.kept,fun b hb=>st.dom b (hs.keys hb),st.drawn⟩⟩
end Go.Proofs.YtcioeonlclpacaaGreatDoor
end
