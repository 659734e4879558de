/- path. No condition. -/
import Derived.Test.YtdkieabmeiojjaaGreatDoorP0ToP7
set_option linter.unusedSimpArgs false
set_option linter.unusedVariables false
set_option linter.unusedSectionVars false
set_option maxHeartbeats 64000000
set_option maxRecDepth 100000
namespace Go.Proofs.YtdkieabmeiojjaaGreatDoor
open Go Go.Ab
open Classical
section
variable [Sel]
def w5 (l:List UInt8):Bool:=decide ((qK 47 l).length<=16)&&(qK 47 l).all XC
theorem QN (c:UInt8):∀l x,x∈qK c l->x.length<=l.length
 | [],x,h=>by simp[qK]at h;simp[h]
 | b::l,x,h=>by
  unfold qK at h
  split at h
  ·rcases List.mem_cons.1 h with rfl|h
   ·simp
   ·have:=QN c l x h;simp;omega
  ·cases hs:qK c l with
   | nil=>exact absurd hs (xG c l)
   | cons y r =>
    rw[hs]at h
    rcases List.mem_cons.1 h with rfl|h
    ·have:=QN c l y (by rw[hs];simp);simp;omega
    ·have:=QN c l x (by rw[hs];simp[h]);simp;omega
abbrev zkt:Cfg:=⟨fun n=>n==2||n==3,fun _=>false⟩
def zqD (l:List UInt8) (b2 b3:Nat) (k:Nat) (H:q8):Prop :=
 k<=16/\(∀i,i<k->∀x,(qK 47 l)[i]?=some x->XC x=true)/\H=[(b3,.var (.int .i64) (.i .i64 k)),(b2,.var .bool (.b false))]
def zqi (l:List UInt8) (b2 b3:Nat) (r:Loop) (H:q8):Prop :=
 w5 l=false/\r.state=.done/\r.pending=some .ret/\∃n,H=[(b3,.var (.int .i64) (.i .i64 n)),(b2,.var .bool (.b false))]
theorem YW (l:List UInt8) (hl:l.length<=9223372036854775807):PC Tryz.prog 48 [.av .str (.s l)] (.av .bool (.b (w5 l))):=by
 refine zow Tryz.func48 zkt fun imm0 w0=>?_
 simp (disch:=omega) [zz]
 intro b2 b3 hb3
 refine qD (R:=ziS l) [] [(b3,.var (.int .i64) (.i .i64 0)),(b2,.var .bool (.b false))] (by simp) rfl (by simp[qE]) (by simp) ?_ ?_
 ·exact q7.args (zek l) (by simp[qR,TV.er,AV.er,coC])
 rintro r H' ⟨c1,c2,c3,rfl,rfl⟩ hnd
 refine⟨_,HSub.refl _,?_⟩
 simp (disch:=omega) [zz]
 refine CH rfl rfl (c1:=c1) (c2:=c2) (c3:=c3) hl (Hr:=[(b3,.var (.int .i64) (.i .i64 0)),(b2,.var .bool (.b false))]) rfl ?_ rfl rfl (by simp) ?_
 ·simp only[YH]
  exact List.Perm.trans (List.Perm.swap _ _ _) (List.Perm.cons _ (List.Perm.swap _ _ _))
 intro y D r i0 w0' hy hready hpend
 simp at hy
 obtain⟨_,_,_,hy3,hy2⟩:=hy
 have hy3':¬b3=y:=fun e=>hy3 e.symm
 have hy2':¬b2=y:=fun e=>hy2 e.symm
 have hb3':¬b2=b3:=fun e=>hb3 e.symm
 refine⟨zqD l b2 b3,zqi l b2 b3,?_,?_,?_,?_,?_,?_⟩
 ·rintro k H ⟨_,_,rfl⟩;rfl
 ·rintro k H ⟨_,_,_,n,rfl⟩;rfl
 ·exact⟨by omega,fun i h=>by omega,rfl⟩
 ·rintro k x H hx ⟨hk,hall,rfl⟩ imm w
  have hxl:x.length<=9223372036854775807:=Nat.le_trans (QN 47 l x (List.mem_of_getElem? hx)) hl
  refine zrd zkt ?_
  simp (disch:=omega) [zz,Z6,yY,VZ]
  refine zrd zkt ?_
  have hlt:k<(qK 47 l).length:=(List.getElem?_eq_some_iff.1 hx).1
  by_cases h16:k<16
  ·have h1:¬(16:Int)<(k:Int)+1:=by omega
   simp (disch:=omega) [zz,Z6,yY,VZ,hy3,hy3',hy2,hy2',hb3,hb3',h1]
   refine zcv (zmu x hxl) ?_
   cases hp:XC x
   ·simp (disch:=omega) [zz,hy3,hy3',hy2,hy2',hb3,hb3',WY,UR,zjc]
    refine⟨_,_,⟨rfl,rfl⟩,?_,rfl,rfl,_,rfl⟩
    simp only[w5,Bool.and_eq_false_iff]
    right
    rw[List.all_eq_false]
    exact⟨x,List.mem_of_getElem? hx,by simp[hp]⟩
   ·simp (disch:=omega) [zz,hy3,hy3',hy2,hy2',hb3,hb3',WY,UR,zjc]
    refine⟨_,⟨congrArg (fun r=>HObj.lrec r i0 w0') (UC hready hpend),rfl⟩,by omega,?_,by simp⟩
    intro i hi x' hx'
    rcases Nat.lt_or_ge i k with h|h
    ·exact hall i h x' hx'
    ·have:i=k:=by omega
     subst this
     rw[hx]at hx';cases hx';exact hp
  ·have h1:(16:Int)<(k:Int)+1:=by omega
   simp (disch:=omega) [zz,Z6,yY,VZ,hy3,hy3',hy2,hy2',hb3,hb3',h1,WY,UR,zjc]
   refine⟨_,_,⟨rfl,rfl⟩,?_,rfl,rfl,_,rfl⟩
   simp only[w5,Bool.and_eq_false_iff]
   left
   simp;omega
 ·rintro H1 ⟨hk,hall,rfl⟩
  simp (disch:=omega) [zz]
  simp (disch:=omega) [zz,hb3,hb3',hy3,hy2,w5,Tryz.f48]
  refine⟨hk,fun x hx=>?_⟩
  obtain⟨i,hi⟩:=List.getElem?_of_mem hx
  exact hall i (List.getElem?_eq_some_iff.1 hi).1 x hi
 ·rintro r' H1 ⟨hm,h1,h2,n,rfl⟩
  refine⟨by rw[h1];simp,?_⟩
  rw[h2]
  simp only[CY]
  simp (disch:=omega) [zz,hb3,hb3',hm,Tryz.f48]
def Z8 (l d:List UInt8):Bool:=w5 l&&(decide (d=[])||(w5 d&&KG l (d++[47])))
theorem zd4 (l d:List UInt8) (hl:l.length<=9223372036854775807) (hd:d.length<=1000):PC Tryz.prog 97 [.av .str (.s l),.av .str (.s d)] (.av .bool (.b (Z8 l d))):=by
 refine zow Tryz.func97 cf0 fun imm0 w0=>?_
 simp (disch:=omega) [zz]
 refine zcv (YW l hl) ?_
 cases hm:w5 l
 ·simp (disch:=omega) [zz,Tryz.f97,Z8,hm]
 by_cases he:d=[]
 ·simp (disch:=omega) [zz,he,Tryz.f97,Z8,hm]
 simp (disch:=omega) [zz,he]
 refine zcv (YW d (by omega)) ?_
 cases hm2:w5 d
 ·simp (disch:=omega) [zz,Tryz.f97,Z8,hm,hm2,he]
 simp (disch:=omega) [zz,he]
 refine⟨by omega,?_⟩
 refine zcv (KV l (d++[47]) hl (by simp;omega)) ?_
 simp (disch:=omega) [zz,Tryz.f97,Z8,hm,hm2,he]
theorem zrj (c b:UInt8):∀l,qK c (l++[b])=if b=c then qK c l++[[]] else(qK c l).set ((qK c l).length-1) (((qK c l)[(qK c l).length-1]?.getD [])++[b])
 | []=>by
  simp only[List.nil_append,qK]
  split<;>simp
 | x::l=>by
  have ih:=zrj c b l
  have hne:=xG c l
  simp only[List.cons_append,qK]
  by_cases hx:x=c
  ·simp only[hx,if_true]
   rw[ih]
   by_cases hb:b=c
   ·simp[hb]
   ·simp only[hb,if_false]
    cases hs:qK c l with
    | nil=>exact absurd hs hne
    | cons y r=>simp
  ·simp only[hx,if_false]
   rw[ih]
   cases hs:qK c l with
   | nil=>exact absurd hs hne
   | cons y r =>
    by_cases hb:b=c
    ·simp[hb]
    ·simp only[hb,if_false]
     cases r with
     | nil=>simp
     | cons z q=>simp
def strs (l:List (List UInt8)):List AV:=l.map AV.s
abbrev zso:Cfg:=⟨fun _=>false,fun n=>n==5||n==35⟩
def zsH (l:List UInt8) (r:TV) (H':q8):Prop:=∃b cap rs,r=.av (.slice 9) (.msl b 9 0 (qK 47 l).length cap)/\H'=[(b,.var (.arr cap 9) (.agg (strs (qK 47 l++rs))))]/\(qK 47 l).length+rs.length=cap
theorem U0 (c:UInt8):∀l,(qK c l).length<=l.length+1
 | []=>by simp[qK]
 | b::l=>by
  have:=U0 c l
  unfold qK
  split
  ·simp;omega
  ·cases hs:qK c l with
   | nil=>simp
   | cons y r=>rw[hs]at this;simp at this |-;omega
@[simp] theorem znP (l:List (List UInt8)):(strs l).length=l.length:=by simp[strs]
theorem xC (a b:List (List UInt8)):strs (a++b)=strs a++strs b:=by simp[strs]
theorem za9 {x:UInt8} {n:Nat} (hn:n<256) (h:¬x=UInt8.ofNat n):¬(x.toNat:Int)=n:=fun e=>h (by
 apply UInt8.toNat_inj.1
 simp[Nat.mod_eq_of_lt hn];omega)
@[simp] theorem zoX (l:List (List UInt8)):AV.erks (strs l)=strs l:=by simp[strs,AV.erks_eq,AV.erk,Function.comp_def]
@[simp] theorem VO (l:List (List UInt8)):AV.ers (strs l)=strs l:=by simp[strs,AV.ers_eq,AV.er,Function.comp_def]
theorem zrL (l:List (List UInt8)) (n:Nat):(strs l).take n=strs (l.take n):=by simp[strs,List.map_take]
theorem zsB (l:List (List UInt8)) (n:Nat):(strs l).drop n=strs (l.drop n):=by simp[strs,List.map_drop]
theorem uY (n:Nat):List.replicate n (AV.s [])=strs (List.replicate n []):=by simp[strs]
theorem zrI (x:List UInt8) (l:List (List UInt8)):AV.s x::strs l=strs (x::l):=rfl
theorem zsg (l:List UInt8) (hl:l.length<=1000000000):q7 Tryz.prog 44 [.av .str (.s l)] [] (zsH l):=by
 refine zov Tryz.func44 zso fun imm0 w0=>?_
 simp (disch:=omega) [zz]
 intro b0
 refine AT.loopV (α:=Nat × Nat × Nat × List (List UInt8) × List (List UInt8)) (fun x ver=>St.of [(0,.av .str (.s l)),(3,.av (.slice 9) (.msl x.2.1 9 0 x.2.2.2.1.length x.2.2.1)),(4,.av (.int .i64) (.i .i64 x.1))] [] ver [(x.2.1,.var (.arr x.2.2.1 9) (.agg (strs (x.2.2.2.1++x.2.2.2.2))))])
  (fun x=>x.1<=l.length/\x.2.2.2.1=qK 47 (l.take x.1)/\x.2.2.2.1.length+x.2.2.2.2.length=x.2.2.1) (fun x=>l.length-x.1) (0,b0,1,[[]],[]) ?_ ?_ ?_
 ·apply Le.of<;>simp[le9,strs]<;>try omega
 ·simp[qK]
 rintro⟨k,b,cap,ps,rest⟩ ver ⟨hk,hps,hcap⟩ KL hN hE
 simp only at hk hps hcap hN
 have hsl:=U0 47 (l.take k)
 rw[<-hps]at hsl
 simp at hsl
 have hne:ps≠[]:=by rw[hps];exact xG _ _
 have hpos:0<ps.length:=List.length_pos_iff.2 hne
 have e1:(strs (ps++rest)).take ps.length=strs ps:=by rw[zrL,List.take_left]
 have e2:(strs (ps++rest)).drop (ps.length+1)=strs (rest.drop 1):=by
  rw[zsB,List.drop_append,List.drop_eq_nil_of_le (by omega)]
  simp
 refine zrd zso ?_
 by_cases hlt:k<l.length
 ·have hlt':(k:Int)<l.length:=by omega
  have hsn:=zrj 47 l[k] (l.take k)
  rw[<-List.take_succ_eq_append_getElem hlt,<-hps]at hsn
  by_cases hc:l[k]=47
  ·rw[if_pos hc]at hsn
   simp (disch:=omega) [zz,hlt',hc,e1,e2]
   refine⟨by omega,⟨by omega,by omega⟩,fun hcp=>?_,fun hcp b' cap' hb' hcp'=>?_⟩
   ·refine hN _ (k+1,b,cap,ps++[[]],rest.drop 1) ?_ ⟨by omega,hsn.symm,by simp;omega⟩ (by simp;omega)
    apply Le.of<;>simp[le9,xC,zrI,e1,e2]<;>try omega
   ·refine hN _ (k+1,b',cap',ps++[[]],List.replicate (cap'-(ps.length+1)) []) ?_ ⟨by omega,hsn.symm,by simp at hcp' |-;omega⟩ (by simp;omega)
    have hmin:min ps.length (ps.length+rest.length)=ps.length:=by omega
    apply Le.of<;>simp[le9,xC,uY,zrI,e1,e2,hmin]<;>try omega
  ·rw[if_neg hc]at hsn
   have hc':¬(l[k].toNat:Int)=47:=by have:=za9 (n:=47) (by omega) hc;simpa using this
   have e3:(strs (ps++rest))[ps.length-1]?=some (.s (ps[ps.length-1]?.getD [])):=by
    simp only[strs,List.getElem?_map]
    rw[List.getElem?_append_left (by omega),List.getElem?_eq_getElem (by omega)]
    rfl
   have e4:∀x,(strs (ps++rest)).set (ps.length-1) (.s x)=strs (ps.set (ps.length-1) x++rest):=by
    intro x
    rw[<-List.set_append_left _ _ (by omega)]
    simp[strs,List.map_set]
   have e5:(l.take (k+1)).drop k=[l[k]]:=by
    rw[List.take_succ_eq_append_getElem hlt]
    exact List.drop_left' (by simp;omega)
   have e6:(ps[ps.length-1]?.getD []).length<=l.length:=by
    rw[List.getElem?_eq_getElem (by omega)]
    have:=QN 47 (l.take k) ps[ps.length-1] (by rw[<-hps];exact List.getElem_mem _)
    simp at this |-;omega
   generalize hz:(ps[ps.length-1]?.getD [])=z at *
   simp (disch:=omega) [zz,hlt',hc',e1,e2,e3,e4,e5]
   (repeat with_reducible refine om ?_)
   refine hN _ (k+1,b,cap,ps.set (ps.length-1) (z++[l[k]]),rest) ?_ ⟨by omega,hsn.symm,by simp;omega⟩ (by simp;omega)
   apply Le.of<;>simp[le9,e4]<;>try omega
 ·have hlt':¬(k:Int)<l.length:=by omega
  simp (disch:=omega) [zz,hlt']
  refine hE _ _ (by simp) ?_
  have hkl:l.take k=l:=List.take_of_length_le (by omega)
  rw[hkl]at hps
  simp (disch:=omega) [zz,Tryz.f44,zsH,<-hps]
  exact⟨_,_,⟨rfl,rfl⟩,rest,⟨rfl,rfl,rfl⟩,hcap⟩
theorem zre (l:List UInt8) (hl:l.length<=1000000000):PC Tryz.prog 44 [.av .str (.s l)] (.av (.slice 9) (.sl .no (strs (qK 47 l)))):=by
 refine(zsg l hl).freeze laid ?_
 rintro r H' ⟨b,cap,rs,rfl,rfl,hc⟩ _
 left
 refine⟨b,cap,9,_,[],List.Perm.refl _,?_,rfl⟩
 simp only[zaK,fzA]
 rw[if_pos ⟨trivial,trivial,by omega,by omega⟩]
 simp[zrL]
theorem U5 (a b:List AV):AV.erks (a++b)=AV.erks a++AV.erks b:=by simp[AV.erks_eq]
def JK (j:List AV):Prop:=AV.erks j=j
theorem JK.app {a b:List AV} (ha:JK a) (hb:JK b):JK (a++b):=by unfold JK at *;rw[U5,ha,hb]
theorem JK.nil:JK []:=rfl
theorem JK.take {a:List AV} (h:JK a) (n:Nat):JK (a.take n):=by
 unfold JK at *;rw[AV.erks_eq]at *;rw[List.map_take,h]
theorem JK.drop {a:List AV} (h:JK a) (n:Nat):JK (a.drop n):=by
 unfold JK at *;rw[AV.erks_eq]at *;rw[List.map_drop,h]
theorem JK.rep {z:AV} (h:z.erk=z) (n:Nat):JK (List.replicate n z):=by
 unfold JK;rw[AV.erks_eq,List.map_replicate,h]
abbrev Txt:=List UInt8
noncomputable def k7 (l:List Txt):List Txt:=l.mergeSort fun a b=>decide (a<=b)
def J1 (ws:List Txt) (v:AV) (H:q8):Prop:=(ws=[]/\v=.sl .no []/\H=[])\/∃b cap j,JK j/\v=.msl b 9 0 ws.length cap/\ws.length+j.length=cap/\H=[(b,.var (.arr cap 9) (.agg (strs ws++j)))]
theorem GZ (l:List Txt):AV.erks (strs l)=strs l:=by simp[strs,AV.erks_eq,AV.erk,Function.comp_def]
theorem jS (l:List Txt):(strs l).length=l.length:=by simp[strs]
theorem xM (p:List Txt) (k:Nat) (h:k<p.length):(strs p)[k]?=some (.s p[k]):=by simp[strs,List.getElem?_eq_getElem h]
theorem x5 (p:List Txt) (j:List AV) (k:Nat) (h:k<p.length):(strs p++j)[k]?=some (.s p[k]):=by
 rw[List.getElem?_append_left (by rw[jS];exact h),xM p k h]
theorem J1.er {ws:List Txt} {v:AV} {H:q8} (h:J1 ws v H):H.er=H/\v.er=v:=by
 rcases h with⟨_,rfl,rfl⟩|⟨b,cap,j,hj,rfl,_,rfl⟩
 ·exact⟨rfl,rfl⟩
 ·refine⟨?_,rfl⟩
  simp only[q8.er_cons,q8.er_nil,HObj.er_var,AV.erk,U5,GZ]
  rw[show AV.erks j=j from hj]
theorem JK.strs (l:List Txt):JK (strs l):=GZ l
noncomputable def y5 (cap:Nat) (ts:List Txt) (j:List AV):HObj:=.var (.arr cap 9) (.agg (strs ts++j))
theorem KU {cap:Nat} {ts:List Txt} {j:List AV} (h:JK j):(y5 cap ts j).er=y5 cap ts j:=by
 simp only[y5,HObj.er_var,AV.erk,U5,GZ]
 rw[show AV.erks j=j from h]
def gN (c:UInt8):Bool:=decide (c=32)||decide (c=9)
def jY (cur:List UInt8):List UInt8->List (List UInt8)
 | []=>if cur=[] then [] else [cur]
 | c::r=>if gN c=true then(if cur=[] then jY [] r else cur::jY [] r) else jY (cur++[c]) r
def zG (l:List UInt8):List (List UInt8):=jY [] l
theorem vO:∀(a:List UInt8) {cur r:List UInt8},(∀c∈a,gN c=false)->jY cur (a++r)=jY (cur++a) r
 | [],cur,r,_=>by simp
 | c::a,cur,r,h=>by
  simp_all[jY,vO]
theorem UD:∀ {l cur:List UInt8},(jY cur l).length<=l.length+1
 | [],cur=>by grind [jY]
 | c::r,cur=>by
  unfold jY
  split
  ·split
   ·have:=UD (l:=r) (cur:=[]);simp;omega
   ·have:=UD (l:=r) (cur:=[]);simp;omega
  ·have:=UD (l:=r) (cur:=cur++[c]);simp;omega
theorem ZV:∀ {l cur x:List UInt8},x∈jY cur l->x≠[]/\x.length<=cur.length+l.length
 | [],cur,x,h=>by
  simp_all[jY]
 | c::r,cur,x,h=>by
  unfold jY at h
  split at h
  ·split at h
   ·have:=ZV h;grind
   ·rename_i hc
    rcases List.mem_cons.1 h with rfl|h
    ·simp_all
    ·have:=ZV h;grind
  ·have:=ZV h;grind
theorem zhP {l:List UInt8} {k:Nat} {b:UInt8} (h:l[k]?=some b) (hb:¬b.toNat<128):1<=(Z7 l k).2/\k+(Z7 l k).2<=l.length/\∀c∈(l.drop k).take (Z7 l k).2,128<=c.toNat:=by
 have hkl:k<l.length:=(List.getElem?_eq_some_iff.1 h).1
 have h0:((ByteArray.mk l.toArray).get! (k+0)).toNat=b.toNat:=by simp_all[zmQ]
 have hsz:(ByteArray.mk l.toArray).size=l.length:=by rfl
 have cont:∀j,(decide (k+j<(ByteArray.mk l.toArray).size)&&(((ByteArray.mk l.toArray).get! (k+j)).toNat / 64==2))=true->k+j<l.length/\∀c,l[k+j]?=some c->128<=c.toNat:=by
  intro j hj
  simp only[Bool.and_eq_true,decide_eq_true_eq,beq_iff_eq,hsz]at hj
  grind [zmQ]
 have fin:∀n,1<=n->(∀j,1<=j->j<n->k+j<l.length/\∀c,l[k+j]?=some c->128<=c.toNat)->k+n<=l.length/\∀c∈(l.drop k).take n,128<=c.toNat:=by
  intro n hn hj
  have hlen:k+n<=l.length:=by
   by_cases h1:n=1
   ·omega
   ·have:=(hj (n-1) (by omega) (by omega)).1;omega
  refine⟨hlen,fun c hc=>?_⟩
  obtain⟨i,hi,rfl⟩:=List.getElem_of_mem hc
  grind
 have one:1<=1/\k+1<=l.length/\∀c∈(l.drop k).take 1,128<=c.toNat:=⟨by omega,fin 1 (by omega) fun j h1 h2=>by omega⟩
 unfold Z7 Utf8.decode
 simp only[h0]
 rw[if_neg (by omega)]
 split
 ·grind
 ·split
  ·grind
  grind
def CW (r:Nat):Bool:=decide (r=32)||decide (r=9)
theorem zjQ (c:UInt8):CW c.toNat=gN c:=by
 unfold CW gN
 have h1:c.toNat=32<->c=32:=⟨fun h=>by
                         have:c=UInt8.ofNat c.toNat:=by simp
                         rw[this,h];rfl,fun h=>by rw[h];rfl⟩
 have h2:c.toNat=9<->c=9:=⟨fun h=>by
                        have:c=UInt8.ofNat c.toNat:=by simp
                        rw[this,h];rfl,fun h=>by rw[h];rfl⟩
 simp_all
theorem zmL (n:Nat) (hn:n<=1114111):PC Tryz.prog 192 [.av (.int .i32) (.i .i32 n)] (.av .bool (.b (CW n))):=by
 refine zow Tryz.func192 cf0 fun imm0 w0=>?_
 by_cases h1:n=32
 ·subst h1
  simp (disch:=omega) [zz,Tryz.f192,CW]
 ·have h1':¬(n:Int)=32:=by omega
  by_cases h2:n=9
  ·subst h2
   simp (disch:=omega) [zz,Tryz.f192,CW]
  ·have h2':¬(n:Int)=9:=by omega
   simp (disch:=omega) [zz,h1,h1',h2,h2',Tryz.f192,CW]
end
end Go.Proofs.YtdkieabmeiojjaaGreatDoor
