/- A row that grows in several places. No condition beyond each theorem's own. -/
import Derived.Test.YtooipdkilgpojaaGreatDoorB0
import Derived.Test.YtooipdkilgpojaaGreatDoorP10ToK6
import Derived.Test.YtooipdkilgpojaaGreatDoorK20ToK21
import Derived.Test.YtooipdkilgpojaaGreatDoorK1ToK3
import Derived.Test.YtooipdkilgpojaaGreatDoorBR0ToKK1
import Derived.Test.YtooipdkilgpojaaGreatDoorAbSToSk
import Derived.Test.YtooipdkilgpojaaGreatDoorKIToK4
import Derived.Test.YtooipdkilgpojaaGreatDoorK11ToBS0
set_option linter.unusedSimpArgs false
set_option linter.unusedVariables false
set_option linter.unusedSectionVars false
section
set_option maxRecDepth 100000
namespace Go.Proofs.YtooipdkilgpojaaGreatDoor
open Go Go.Ab
open Classical
variable [Sel]
def zGA (ver:Nat→Nat):Option Nat→Tok
 | none=>.full
 | some k=>.own k (ver k)
theorem zGz {P:Program} {s:St} {d:Nat} {o:Option Nat} {e:TypeId} {xs ys:List AV} {K:St→Prop} (h1:2*(xs.length+ys.length)*P.bytesOf e≤281474976710656) (h2:xs.length+ys.length≤4611686018427387904) (h3:zB P e=true) (h4:jX P e=true)
  (hk:∀ver',K (({ s with ver:=ver' }:St).put (some d) (.av (.slice e) (.sl (zGA ver' (some d)) (xs++ys))))):wB P s d e (zGA s.ver o) xs ys K:=by
 refine⟨h1,h2,h3,h4,?_⟩
 cases o with
 | none=>simpa[zGA,upd]using hk (upd s.ver d (s.ver d+1))
 | some k=>exact⟨rfl,by simpa[zGA,upd]using hk (upd (upd s.ver k (s.ver k+1)) d (s.ver d+1))⟩
theorem zh6 (p:List (List UInt8)) (k:Nat) (h:k<p.length):(strs p)[k]?=some (.s p[k]):=by simp[strs,List.getElem?_eq_getElem h]
set_option maxHeartbeats 8000000 in
theorem zl8 (l:List UInt8) (hl:l.length≤1000000000):PC Tryz.prog 72 [.av .str (.s l)] (.av .bool (.b (yV l))):=by
 refine zow Tryz.func72 cf0 fun imm0 w0=>?_
 simp (disch:=omega) [zz]
 refine zcv (u9 l hl) ?_
 simp (disch:=omega) [zz]
 have hle:=QQ 47 l
 obtain⟨p,hp⟩:∃p,p=qT 47 l:=⟨_,rfl⟩
 have hlen:∀x∈p,x.length≤l.length:=fun x hx=>kU 47 l x (by rw[←hp];exact hx)
 rw[←hp]at hle ⊢
 refine AT.loop' (α:=Nat) (fun k=>St.of [(3,.av (.slice 9) (.sl .no (strs p))),(4,.av (.int .i64) (.i .i64 k))] [] (fun _=>0) []) (fun k=>k≤p.length∧∀x∈p.take k,Q0 x=true) (fun k=>p.length-k) 0 ?_ ?_ ?_
 ·apply Le.of<;>simp[qU,qG,qO,qH,qP,qK,qF,qI,qJ,qN,zX]<;>try omega
 ·simp
 rintro k ⟨hk,hall⟩ KL hN hE
 refine qM (cf:=cf0) laid mixed _ _ _ (by kernel_rfl) ?_
 by_cases hlt:k<p.length
 ·have hlt':(k:Int)<p.length:=by omega
  have hx:=hlen p[k] (List.getElem_mem _)
  have hg:=zh6 p k hlt
  simp (disch:=omega) [zz,hlt',hg]
  refine zcv (zcA p[k] (by omega)) ?_
  cases hpv:Q0 p[k]
  ·simp (disch:=omega) [zz]
   refine hE _ _ (by simp) ?_
   have:yV l=false:=by
    simp only[yV,Bool.and_eq_false_iff]
    right
    rw[List.all_eq_false]
    exact⟨p[k],by rw[←hp];exact List.getElem_mem _,by simp[hpv]⟩
   simp (disch:=omega) [zz,Tryz.f72,this]
  ·simp (disch:=omega) [zz]
   refine hN _ (k+1) ?_ ⟨by omega,by rw[Z2 hlt];exact⟨hall,hpv⟩⟩ (by omega)
   apply Le.of<;>simp[qU,qG,qO,qH,qP,qK,qF,qI,qJ,qN,zX]<;>try omega
 ·have hlt':¬(k:Int)<p.length:=by omega
  simp (disch:=omega) [zz,hlt']
  refine hE _ _ (by simp) ?_
  rw[List.take_of_length_le (by omega)]at hall
  have hal:p.all Q0=true:=by simpa using hall
  simp (disch:=omega) [zz,Tryz.f72,yV,←hp,hal]
  omega
end Go.Proofs.YtooipdkilgpojaaGreatDoor
end
section
set_option maxRecDepth 100000
namespace Go.Proofs.YtooipdkilgpojaaGreatDoor
open Go Go.Ab
open Classical
variable [Sel] [SelPow] [SelMax]
@[simp] theorem zx5:qZ Tryz.prog 33=true:=by kernel_rfl
@[simp] theorem zxm:z8 Tryz.prog (.func 33)=false:=q9 zx5
@[simp] theorem zwW:qZ Tryz.prog 32=true:=by kernel_rfl
@[simp] theorem zxv:z8 Tryz.prog (.func 32)=false:=q9 zwW
@[simp] theorem zx4:qZ Tryz.prog 34=true:=by kernel_rfl
@[simp] theorem zxf:z8 Tryz.prog (.func 34)=false:=q9 zx4
@[simp] theorem zwL:qZ Tryz.prog 35=true:=by kernel_rfl
@[simp] theorem zxy:z8 Tryz.prog (.func 35)=false:=q9 zwL
@[simp] theorem zwP:qZ Tryz.prog 10=true:=by kernel_rfl
@[simp] theorem zxt:z8 Tryz.prog (.func 10)=false:=q9 zwP
def zxI:List UInt8→List (List UInt8)
 | []=>[]
 | b::l=>if b=10 then []::zxI l else match zxI l with
  | []=>[[b]]
  | x::r=>(b::x)::r
theorem zy5:∀l:List UInt8,zxI (l++[10])=qT 10 l
 | []=>by simp[zxI,qT]
 | b::l=>by
  have ih:=zy5 l
  rw[List.cons_append,zxI,qT,ih]
  cases qT 10 l<;>rfl
theorem zy3:∀(l:List UInt8) (b:UInt8),b≠10→zxI (l++[b])=qT 10 (l++[b])
 | [],b,h=>by simp[zxI,qT,h]
 | c::l,b,h=>by
  have ih:=zy3 l b h
  rw[List.cons_append,zxI,qT,ih]
  cases qT 10 (l++[b])<;>rfl
theorem zy7 (l:List UInt8):z7 l=zxI l:=by
 unfold z7
 rcases List.eq_nil_or_concat l with rfl|⟨l',b,rfl⟩
 ·simp[zxI]
 rw[List.concat_eq_append]
 rw[if_neg (by simp)]
 by_cases hb:b=10
 ·subst hb
  rw[zy5]
  have hs:K8 (l'++[10]) [10]=l':=by
   unfold K8
   have:VY (l'++[10]) [10]=true:=by simp[VY]
   rw[if_pos this]
   simp
  rw[hs]
 ·rw[zy3 l' b hb]
  have hs:K8 (l'++[b]) [10]=l'++[b]:=by
   unfold K8
   have:VY (l'++[b]) [10]=false:=by simp[VY,hb]
   rw[if_neg (by rw[this];decide)]
  rw[hs]
theorem zy0:∀(a b:List UInt8),(∀x∈a,x≠10)→zxI (a++10::b)=a::zxI b
 | [],b,_=>by simp[zxI]
 | c::a,b,h=>by
  have ih:=zy0 a b fun x hx=>h x (by simp[hx])
  have hc:c≠10:=h c (by simp)
  rw[List.cons_append,zxI,if_neg hc,ih]
theorem zxY:∀(a:List UInt8),(∀x∈a,x≠10)→zxI a=if a=[] then [] else [a]
 | [],_=>rfl
 | c::a,h=>by
  have ih:=zxY a fun x hx=>h x (by simp[hx])
  have hc:c≠10:=h c (by simp)
  rw[zxI,if_neg hc,ih]
  cases a<;>simp
abbrev zyw:Cfg:=⟨fun _=>false,fun _=>false⟩
def tkA (d:Nat):Nat→Tok
 | 0=>.full
 | k+1=>.own d (k+1)
structure zxW (l:List UInt8) (i f:Nat) (L:List (List UInt8)):Prop where
 fi:f≤i
 il:i≤l.length
 few:L.length≤i
 all:zxI l=L++zxI (l.drop f)
 no:∀x∈(l.take i).drop f,x≠10
theorem zxW.start (l:List UInt8):zxW l 0 0 []:=⟨by omega,by omega,by simp,by simp,by simp⟩
theorem zyn {l:List UInt8} {i:Nat} (h:i<l.length):l.take (i+1)=l.take i++[l[i]]:=List.take_succ_eq_append_getElem h
theorem zxW.next {l:List UInt8} {i f:Nat} {L:List (List UInt8)} (h:zxW l i f L) (hi:i<l.length) (hc:l[i]≠10):zxW l (i+1) f L:=by
 have h1:=h.fi
 have h2:=h.few
 refine⟨by omega,by omega,by omega,h.all,fun x hx=>?_⟩
 rw[zyn hi,List.drop_append_of_le_length (by rw[List.length_take];omega)]at hx
 rcases List.mem_append.1 hx with hx|hx
 ·exact h.no x hx
 ·rw[List.mem_singleton.1 hx];exact hc
theorem zxW.line {l:List UInt8} {i f:Nat} {L:List (List UInt8)} (h:zxW l i f L) (hi:i<l.length) (hc:l[i]=10):zxW l (i+1) (i+1) (L++[(l.take i).drop f]):=by
 have h1:=h.fi
 have h2:=h.few
 refine⟨by omega,by omega,by rw[List.length_append,List.length_singleton];omega,?_,fun x hx=>by rw[List.drop_eq_nil_of_le (by rw[List.length_take];omega)]at hx;cases hx⟩
 have e:l.drop f=(l.take i).drop f++10::l.drop (i+1):=by
  conv=>lhs;rw[←List.take_append_drop i l]
  rw[List.drop_append_of_le_length (by rw[List.length_take];omega),List.drop_eq_getElem_cons hi,hc]
 rw[h.all,e,zy0 _ _ h.no]
 simp
theorem zxW.done {l:List UInt8} {f:Nat} {L:List (List UInt8)} (h:zxW l l.length f L):z7 l=L++if f<l.length then [l.drop f] else []:=by
 rw[zy7,h.all]
 have hn:∀x∈l.drop f,x≠10:=fun x hx=>h.no x (by rw[List.take_length];exact hx)
 rw[zxY _ hn]
 by_cases hf:f<l.length
 ·rw[if_pos hf,if_neg (by intro e;have:=congrArg List.length e;simp at this;omega)]
 ·rw[if_neg hf,if_pos (List.drop_eq_nil_of_le (by omega))]
set_option maxHeartbeats 8000000 in
theorem zyi (l:Txt) (hl:l.length≤1000000000):PC Tryz.prog 32 [.av .str (.s l)] (.av (.slice 9) (.sl .no (strs (z7 l)))):=by
 refine zow Tryz.func32 zyw fun imm0 w0=>?_
 simp (disch:=omega) [zz]
 refine AT.loop' (α:=Nat × Nat × List (List UInt8)) (fun x=>St.of [(0,.av .str (.s l)),(3,.av (.slice 9) (.sl (tkA 22 x.2.2.length) (strs x.2.2))),(4,.av (.int .i64) (.i .i64 x.2.1)),(5,.av (.int .i64) (.i .i64 x.1))] [] (fun j=>if j=22 then x.2.2.length else 0) [])
  (fun x=>zxW l x.1 x.2.1 x.2.2) (fun x=>l.length-x.1) (0,0,[]) ?_ ?_ ?_
 ·apply Le.of<;>simp[qU,qG,tkA,strs]<;>try omega
 ·exact zxW.start l
 rintro⟨i,f,L⟩ hinv KL hN hE
 simp only at hinv hN
 refine qM (cf:=zyw) laid mixed _ _ _ (by kernel_rfl) ?_
 have hfi:=hinv.fi
 have hil:=hinv.il
 have hfw:=hinv.few
 by_cases hlt:i<l.length
 ·have hlt':(i:Int)<l.length:=by omega
  have hg:l[i]?=some l[i]:=List.getElem?_eq_getElem hlt
  by_cases hc:l[i]=10
  ·have hn:=hinv.line hlt hc
   have hcI:((l[i].toNat:Nat):Int)=10:=by rw[hc];rfl
   obtain⟨q,hq⟩:∃q,q=(l.take i).drop f:=⟨_,rfl⟩
   rw[←hq]at hn
   cases L with
   | nil =>
    simp (disch:=omega) [zz,hlt,hlt',hg,hcI,←hq,tkA]
    (repeat with_reducible refine om ?_)
    simp (disch:=omega) [zz,wB]
    (repeat with_reducible refine om ?_)
    refine hN _ (i+1,i+1,[q]) ?_ hn (by simp only;omega)
    apply Le.of<;>simp[qU,qG,tkA,strs]<;>try omega
   | cons y L =>
    simp only[List.length_cons]at hfw
    simp (disch:=omega) [zz,hlt,hlt',hg,hcI,←hq,tkA,strs]
    (repeat with_reducible refine om ?_)
    simp (disch:=omega) [zz,wB]
    (repeat with_reducible refine om ?_)
    refine hN _ (i+1,i+1,(y::L)++[q]) ?_ hn (by simp only;omega)
    apply Le.of<;>simp[qU,qG,tkA,strs]<;>try omega
    all_goals (intro j;by_cases hj:j=22<;>simp[hj])
  ·have hn:=hinv.next hlt hc
   have hcI:¬((l[i].toNat:Int)=10):=fun h=>hc (UInt8.toNat_inj.1 (by
                                          have:l[i].toNat=10:=by omega
                                          simpa using this))
   simp (disch:=omega) [zz,hlt,hlt',hg,hcI]
   refine hN _ (i+1,f,L) ?_ hn (by simp only;omega)
   apply Le.of<;>simp[qU,qG,zX]<;>try omega
 ·have hin:i=l.length:=by omega
  subst hin
  have hlt':¬(l.length:Int)<l.length:=by omega
  have hd:=hinv.done
  simp (disch:=omega) [zz,hlt']
  refine hE _ _ (by simp) ?_
  clear hN hE
  by_cases hf:f<l.length
  ·have hf':(f:Int)<l.length:=by omega
   rw[if_pos hf]at hd
   cases L with
   | nil =>
    simp (disch:=omega) [zz,hf',tkA]
    (repeat with_reducible refine om ?_)
    simp (disch:=omega) [zz,wB]
    (repeat with_reducible refine om ?_)
    simp (disch:=omega) [zz,hd,strs,AV.ers_eq,AV.er,Function.comp_def,Tryz.f32]
   | cons y L =>
    simp only[List.length_cons]at hfw
    simp (disch:=omega) [zz,hf',tkA,strs]
    (repeat with_reducible refine om ?_)
    simp (disch:=omega) [zz,wB]
    (repeat with_reducible refine om ?_)
    simp (disch:=omega) [zz,hd,strs,AV.ers_eq,AV.er,Function.comp_def,Tryz.f32]
  ·have hf':¬(f:Int)<l.length:=by omega
   rw[if_neg hf,List.append_nil]at hd
   simp (disch:=omega) [zz,hf',hd,Tryz.f32]
structure WI (l:List UInt8) (i:Nat) (inw:Bool) (ps:List (List UInt8)):Prop where
 il:i≤l.length
 few:ps.length≤i
 all:C5 inw ps (l.drop i)=zR l
 ne:inw=true→ps≠[]∧ps.getLastD []≠[]
 wl:∀x∈ps,x.length≤i
theorem WI.start (l:List UInt8):WI l 0 false []:=⟨by omega,by simp,by simp[C5,zR],by simp,by simp⟩
theorem WI.sep {l:List UInt8} {i:Nat} {inw:Bool} {ps:List (List UInt8)} (h:WI l i inw ps) (hi:i<l.length) (hc:vV l[i]=true):WI l (i+1) false ps:=by
 have h2:=h.few
 have ha:=h.all
 rw[List.drop_eq_getElem_cons hi]at ha
 refine⟨by omega,by omega,?_,(fun e=>by cases e),fun x hx=>by have:=h.wl x hx;omega⟩
 cases inw with
 | true =>
  obtain⟨h3,h4⟩:=h.ne rfl
  rw[zxZ h3 h4 hc]at ha
  exact ha
 | false =>
  rw[zxV hc]at ha
  exact ha
theorem WI.more {l:List UInt8} {i:Nat} {q:List (List UInt8)} {x:List UInt8} (h:WI l i true (q++[x])) (hi:i<l.length) (hc:vV l[i]=false):WI l (i+1) true (q++[x++[l[i]]]):=by
 have h2:=h.few
 have ha:=h.all
 rw[List.drop_eq_getElem_cons hi,zye (by simp) hc]at ha
 refine⟨by omega,by simp at h2 ⊢;omega,?_,fun _=>by simp,fun y hy=>?_⟩
 rotate_left
 ·rcases List.mem_append.1 hy with hy|hy
  ·have:=h.wl y (by simp[hy]);omega
  ·have:=h.wl x (by simp)
   rw[List.mem_singleton.1 hy];simp;omega
 rw[←ha]
 congr 1
 simp
theorem WI.new {l:List UInt8} {i:Nat} {ps:List (List UInt8)} (h:WI l i false ps) (hi:i<l.length) (hc:vV l[i]=false):WI l (i+1) true (ps++[[l[i]]]):=by
 have h2:=h.few
 have ha:=h.all
 rw[List.drop_eq_getElem_cons hi,zyb hc]at ha
 refine⟨by omega,by simp;omega,ha,fun _=>by simp,fun y hy=>?_⟩
 rcases List.mem_append.1 hy with hy|hy
 ·have:=h.wl y hy;omega
 ·rw[List.mem_singleton.1 hy];simp
theorem WI.done {l:List UInt8} {inw:Bool} {ps:List (List UInt8)} (h:WI l l.length inw ps):zR l=ps:=by
 have ha:=h.all
 rw[List.drop_length,zy9 inw ps h.ne]at ha
 exact ha.symm
theorem u8i (c d:UInt8):((c.toNat:Nat):Int)=((d.toNat:Nat):Int)↔c=d:=⟨fun h=>UInt8.toNat_inj.1 (by omega),fun h=>by rw[h]⟩
def zyl (ps:List (List UInt8)) (ta:AV) (TA:q8):Prop:=(ps=[]∧ta=.nsl∧TA=[])∨∃T cap rs,ta=.msl T 9 0 ps.length cap∧ps.length+rs.length=cap∧TA=[(T,.var (.arr cap 9) (.agg (strs (ps++rs))))]
theorem zyl.er {ps:List (List UInt8)} {ta:AV} {TA:q8} (h:zyl ps ta TA):ta.er=ta∧TA.er=TA:=by
 rcases h with⟨_,rfl,rfl⟩|⟨T,cap,rs,rfl,_,rfl⟩
 ·exact⟨rfl,rfl⟩
 ·refine⟨rfl,?_⟩
  simp[q8.er_cons,q8.er_nil,HObj.er_var,AV.erk,strs,AV.erks_eq,Function.comp_def]
theorem zyt {l:List UInt8} {i:Nat} (h:i<l.length):(l.take (i+1)).drop i=[l[i]]:=by
 rw[zyn h,List.drop_append_of_le_length (by rw[List.length_take];omega),List.drop_eq_nil_of_le (by rw[List.length_take];omega)]
 rfl
theorem atS (ps:List (List UInt8)) (y:AV) (R:List AV):(strs ps++y::R)[ps.length]?=some y:=by
 rw[List.getElem?_append_right (by simp[strs])]
 simp[strs]
theorem zyv (ps:List (List UInt8)) (y z:AV) (R:List AV):(strs ps++y::R).set ps.length z=strs ps++z::R:=by
 rw[List.set_append_right _ _ (by simp[strs])]
 simp[strs]
theorem zyf (x:List UInt8) (l:List (List UInt8)):strs (x::l)=AV.s x::strs l:=rfl
theorem zyk (n:Nat):strs (List.replicate n [])=List.replicate n (AV.s []):=by simp[strs]
abbrev zyu:Cfg:=⟨fun _=>false,fun n=>n==43⟩
set_option maxHeartbeats 16000000 in
theorem zyc (l:Txt) (hl:l.length≤1000000):q7 Tryz.prog 33 [.av .str (.s l)] [] fun r H'=>∃ta TA,r=.av (.slice 9) ta∧zyl (zR l) ta TA∧Ab.HSub TA H':=by
 refine zov Tryz.func33 zyu fun imm0 w0=>?_
 simp (disch:=omega) [zz]
 refine AT.nsl 3 9 (by simp ) ?_
 refine AT.loop' (α:=Nat × Bool × List (List UInt8) × AV × q8) (fun x=>St.of [(0,.av .str (.s l)),(3,.av (.slice 9) x.2.2.2.1),(4,.av .bool (.b x.2.1)),(5,.av (.int .i64) (.i .i64 x.1))] [] (fun _=>0) x.2.2.2.2)
  (fun x=>WI l x.1 x.2.1 x.2.2.1∧zyl x.2.2.1 x.2.2.2.1 x.2.2.2.2) (fun x=>l.length-x.1) (0,false,[],.nsl,[]) ?_ ?_ ?_
 ·apply Le.of<;>simp[qU,qG,zX]<;>try omega
 ·exact⟨WI.start l,.inl ⟨rfl,rfl,rfl⟩⟩
 rintro⟨i,inw,ps,ta,TA⟩ ⟨hinv,hrow⟩ KL hN hE
 simp only at hinv hrow hN
 have hil:=hinv.il
 have hfw:=hinv.few
 refine qM (cf:=zyu) laid mixed _ _ _ (by kernel_rfl) ?_
 by_cases hlt:i<l.length
 ·have hlt':(i:Int)<l.length:=by omega
  have hg:l[i]?=some l[i]:=List.getElem?_eq_getElem hlt
  have h32:((l[i].toNat:Nat):Int)=32↔l[i]=32:=u8i l[i] 32
  have h9:((l[i].toNat:Nat):Int)=9↔l[i]=9:=u8i l[i] 9
  by_cases hs:vV l[i]=true
  ·have hn:=hinv.sep hlt hs
   by_cases e32:l[i]=32
   ·have e32':=h32.2 e32
    simp (disch:=omega) [zz,hlt,hlt',hg,e32']
    refine hN _ (i+1,false,ps,ta,TA) ?_ ⟨hn,hrow⟩ (by simp only;omega)
    apply Le.of<;>simp[qU,qG,zX]<;>try omega
   ·have e32':¬((l[i].toNat:Nat):Int)=32:=fun h=>e32 (h32.1 h)
    have e9':=h9.2 (by simpa[vV,e32]using hs)
    simp (disch:=omega) [zz,hlt,hlt',hg,e32',e9']
    refine hN _ (i+1,false,ps,ta,TA) ?_ ⟨hn,hrow⟩ (by simp only;omega)
    apply Le.of<;>simp[qU,qG,zX]<;>try omega
  have hs':vV l[i]=false:=by simpa using hs
  have e32':¬((l[i].toNat:Nat):Int)=32:=fun h=>by simp[vV,h32.1 h]at hs'
  have e9':¬((l[i].toNat:Nat):Int)=9:=fun h=>by simp[vV,h9.1 h]at hs'
  cases inw with
  | true =>
   obtain⟨hne,hla⟩:=hinv.ne rfl
   rcases hrow with⟨h1,_⟩|⟨T,cap,rs,rfl,hcap,rfl⟩
   ·exact absurd h1 hne
   obtain⟨q,x,rfl⟩:∃q x,ps=q++[x]:=⟨_,_,zxN hne⟩
   have hn:=hinv.more hlt hs'
   have hcut:=zyt hlt
   simp only[List.length_append,List.length_singleton]at hfw hcap
   have hwl:=hinv.wl x (by simp)
   have hps:strs (q++[x]++rs)=strs q++AV.s x::strs rs:=by rw[Z6,Z6];simp[strs]
   have hat:=atS q (.s x) (strs rs)
   have hst:=fun z=>zyv q (.s x) z (strs rs)
   rw[hps]
   obtain⟨c,hcc⟩:∃c,c=l[i]:=⟨_,rfl⟩
   rw[←hcc]at hcut hn
   simp (disch:=omega) [zz,hlt,hlt',hg,e32',e9',List.length_append,hat,hst,hcut]
   (repeat with_reducible refine om ?_)
   refine hN _ (i+1,true,q++[x++[c]],.msl T 9 0 (q.length+1) cap,[(T,.var (.arr cap 9) (.agg (strs (q++[x++[c]]++rs))))]) ?_ ⟨hn,.inr ⟨T,cap,rs,by simp,by simp;omega,rfl⟩⟩ (by simp only;omega)
   apply Le.of<;>simp[qU,qG,Z6,zyf,strs]<;>try omega
  | false =>
   have hn:=hinv.new hlt hs'
   have hcut:=zyt hlt
   rcases hrow with⟨rfl,rfl,rfl⟩|⟨T,cap,rs,rfl,hcap,rfl⟩
   ·simp (disch:=omega) [zz,hlt,hlt',hg,e32',e9',hcut]
    (repeat with_reducible refine om ?_)
    intro b cap hcap
    (repeat with_reducible refine om ?_)
    refine hN _ (i+1,true,[[l[i]]],.msl b 9 0 1 cap,[(b,.var (.arr cap 9) (.agg (strs ([[l[i]]]++List.replicate (cap-1) []))))]) ?_ ⟨hn,.inr ⟨b,cap,List.replicate (cap-1) [],by simp,by simp;omega,rfl⟩⟩ (by simp only;omega)
    apply Le.of<;>simp[qU,qG,Z6,zyf,zyk,strs]<;>try omega
   ·have e1:List.take ps.length (strs (ps++rs))=strs ps:=by rw[Z6,List.take_left' (by simp[strs])]
    have e2:List.drop (ps.length+1) (strs (ps++rs))=strs (rs.drop 1):=by
     rw[Z6,List.drop_append]
     simp[strs]
    have hat:=fun R=>atS ps (.s []) R
    have hst:=fun z R=>zyv ps (.s []) z R
    simp (disch:=omega) [zz,hlt,hlt',hg,e32',e9',e1,e2,hcut,hat,hst]
    (repeat with_reducible refine om ?_)
    refine⟨fun hc=>?_,fun hc b2 cap2 hb2 hc2=>?_⟩
    ·(repeat with_reducible refine om ?_)
     refine hN _ (i+1,true,ps++[[l[i]]],.msl T 9 0 (ps.length+1) cap,[(T,.var (.arr cap 9) (.agg (strs (ps++[[l[i]]]++rs.drop 1))))]) ?_ ⟨hn,.inr ⟨T,cap,rs.drop 1,by simp,by simp;omega,rfl⟩⟩ (by simp only;omega)
     apply Le.of<;>simp[qU,qG,Z6,zyf,zyk,strs]<;>try omega
    ·(repeat with_reducible refine om ?_)
     refine hN _ (i+1,true,ps++[[l[i]]],.msl b2 9 0 (ps.length+1) cap2,[(b2,.var (.arr cap2 9) (.agg (strs (ps++[[l[i]]]++List.replicate (cap2-(ps.length+1)) []))))]) ?_ ⟨hn,.inr ⟨b2,cap2,List.replicate (cap2-(ps.length+1)) [],by simp,by simp;omega,rfl⟩⟩ (by simp only;omega)
     apply Le.of<;>simp[qU,qG,Z6,zyf,zyk,strs]<;>try omega
 ·have hin:i=l.length:=by omega
  subst hin
  have hlt':¬(l.length:Int)<l.length:=by omega
  have hd:=hinv.done
  simp (disch:=omega) [zz,hlt']
  refine hE _ _ (by simp) ?_
  obtain⟨t1,t2⟩:=hrow.er
  simp (disch:=omega) [zz,t1,t2,Tryz.f33]
  rw[hd]
  exact⟨TA,hrow,HSub.refl _⟩
theorem zyh (l:Txt) (hl:l.length≤1000000):PC Tryz.prog 33 [.av .str (.s l)] (.av (.slice 9) (.sl .no (strs (zR l)))):=by
 refine q7.nilR (R:=fun r H'=>(r=.av (.slice 9) (.sl .no (strs (zR l)))∧H'=[])∨(zR l=[]∧r=.av (.slice 9) .nsl∧H'=[])) ?_ ?_
 ·refine q7.freeze (R:=fun r H'=>∃ta TA,r=.av (.slice 9) ta∧zyl (zR l) ta TA∧H'=TA) laid ?_ ?_
  ·exact q7.sub (zyc l hl) fun r H' ⟨ta,TA,h1,h2,h3⟩ _=>⟨TA,h3,ta,TA,h1,h2,rfl⟩
  ·rintro r H' ⟨ta,TA,rfl,hrow,rfl⟩ _
   rcases hrow with⟨h1,rfl,rfl⟩|⟨T,cap,rs,rfl,hcap,rfl⟩
   ·exact .inr (.inr ⟨h1,rfl,rfl⟩)
   ·left
    refine⟨T,cap,9,_,[],List.Perm.refl _,.inl ⟨?_,rfl⟩⟩
    simp only[zho,fzA]
    rw[if_pos ⟨trivial,trivial,by omega,by omega⟩,List.drop_zero,Z6,List.take_left' (by simp[strs])]
 ·rintro r H' (⟨rfl,rfl⟩|⟨h1,rfl,rfl⟩)
  ·exact .inl ⟨rfl,rfl⟩
  ·right
   exact⟨_,rfl,by rw[h1];rfl,rfl⟩
theorem zyd (ws:List Txt) (h:∀w∈ws,w≠[]) (hl:ws.length≤1000000000):PC Tryz.prog 34 [.av (.slice 9) (.sl .no (strs ws))] (.av .bool (.b (U4 ws))):=by
 refine zow Tryz.func34 cf0 fun imm0 w0=>?_
 cases ws with
 | nil=>simp (disch:=omega) [zz,strs,U4,Tryz.f34]
 | cons w r =>
  have hw:=h w (by simp)
  cases w with
  | nil=>exact absurd rfl hw
  | cons c w' =>
   have hr:¬(r.length:Int)+1=0:=by omega
   have h35:=u8i c 35
   by_cases hc:c=35
   ·have hcI:((c.toNat:Nat):Int)=35:=h35.2 hc
    simp (disch:=omega) [zz,strs,U4,hr,hcI,hc,Tryz.f34]
   ·have hcI:¬((c.toNat:Nat):Int)=35:=fun e=>hc (h35.1 e)
    simp (disch:=omega) [zz,strs,U4,hr,hc,hcI,Tryz.f34]
end Go.Proofs.YtooipdkilgpojaaGreatDoor
end
section
set_option maxRecDepth 100000
namespace Go.Proofs.YtooipdkilgpojaaGreatDoor
open Go Go.Ab
open Classical
variable [Sel] [SelPow] [SelMax]
set_option maxHeartbeats 16000000 in
theorem zy6 (w:Txt) (ws:List Txt) (hl:ws.length≤1000000000) (hw:∀x∈ws,x.length≤1000000000):PC Tryz.prog 35 [.av (.slice 9) (.sl .no (strs (w::ws)))] (.av .bool (.b (zoT w ws))):=by
 have h0:ws=[]∨(∃x,ws=[x])∨(∃x y,ws=[x,y])∨∃x y z r,ws=x::y::z::r:=by
  rcases ws with _|⟨x,_|⟨y,_|⟨z,r⟩⟩⟩
  ·exact .inl rfl
  ·exact .inr (.inl ⟨x,rfl⟩)
  ·exact .inr (.inr (.inl ⟨x,y,rfl⟩))
  ·exact .inr (.inr (.inr ⟨x,y,z,r,rfl⟩))
 have hr:∀r:List Txt,¬(r.length:Int)+1+1+1+1=2:=fun r=>by omega
 have hr3:∀r:List Txt,¬(r.length:Int)+1+1+1+1=3:=fun r=>by omega
 have hr1:∀r:List Txt,¬(r.length:Int)+1+1+1+1=1:=fun r=>by omega
 have hr0:∀r:List Txt,(0:Int)<(r.length:Int)+1+1+1+1:=fun r=>by omega
 refine zow Tryz.func35 cf0 fun imm0 w0=>?_
 by_cases hText:w=tText
 ·subst hText
  simp (disch:=omega) [zz,strs,zoT,tText,Tryz.f35]
 by_cases hRead:w=zZ
 ·subst hRead
  rcases h0 with rfl|⟨x,rfl⟩|⟨x,y,rfl⟩|⟨x,y,z,r,rfl⟩
  ·simp (disch:=omega) [zz,strs,zoT,tText,zZ,w8,j8,jT,yO,wQ,kG,wP,y4,kV,kY,yR,Tryz.f35]
  ·have hm:=zl8 x (hw x (by simp))
   simp (disch:=omega) [zz,strs,tText,zZ,w8,j8,jT,yO,wQ,kG,wP,y4,kV,kY,yR]
   refine zcv hm ?_
   simp (disch:=omega) [zz,zoT,tText,zZ,w8,j8,jT,yO,wQ,kG,wP,y4,kV,kY,yR,Tryz.f35]
  ·simp (disch:=omega) [zz,strs,zoT,tText,zZ,w8,j8,jT,yO,wQ,kG,wP,y4,kV,kY,yR,Tryz.f35]
  ·simp (disch:=omega) [zz,strs,hr,hr0,zoT,tText,zZ,w8,j8,jT,yO,wQ,kG,wP,y4,kV,kY,yR,Tryz.f35]
 by_cases hTry:w=w8
 ·subst hTry
  rcases h0 with rfl|⟨x,rfl⟩|⟨x,y,rfl⟩|⟨x,y,z,r,rfl⟩
  ·simp (disch:=omega) [zz,strs,zoT,tText,zZ,w8,j8,jT,yO,wQ,kG,wP,y4,kV,kY,yR,Tryz.f35]
  ·have hm:=zl8 x (hw x (by simp))
   simp (disch:=omega) [zz,strs,tText,zZ,w8,j8,jT,yO,wQ,kG,wP,y4,kV,kY,yR]
   refine zcv hm ?_
   simp (disch:=omega) [zz,zoT,tText,zZ,w8,j8,jT,yO,wQ,kG,wP,y4,kV,kY,yR,Tryz.f35]
  ·simp (disch:=omega) [zz,strs,zoT,tText,zZ,w8,j8,jT,yO,wQ,kG,wP,y4,kV,kY,yR,Tryz.f35]
  ·simp (disch:=omega) [zz,strs,hr,hr0,zoT,tText,zZ,w8,j8,jT,yO,wQ,kG,wP,y4,kV,kY,yR,Tryz.f35]
 by_cases hWrite:w=j8
 ·subst hWrite
  rcases h0 with rfl|⟨x,rfl⟩|⟨x,y,rfl⟩|⟨x,y,z,r,rfl⟩
  ·simp (disch:=omega) [zz,strs,zoT,tText,zZ,w8,j8,jT,yO,wQ,kG,wP,y4,kV,kY,yR,Tryz.f35]
  ·have hm:=zl8 x (hw x (by simp))
   simp (disch:=omega) [zz,strs,tText,zZ,w8,j8,jT,yO,wQ,kG,wP,y4,kV,kY,yR]
   refine zcv hm ?_
   simp (disch:=omega) [zz,zoT,tText,zZ,w8,j8,jT,yO,wQ,kG,wP,y4,kV,kY,yR,Tryz.f35]
  ·simp (disch:=omega) [zz,strs,zoT,tText,zZ,w8,j8,jT,yO,wQ,kG,wP,y4,kV,kY,yR,Tryz.f35]
  ·simp (disch:=omega) [zz,strs,hr,hr0,zoT,tText,zZ,w8,j8,jT,yO,wQ,kG,wP,y4,kV,kY,yR,Tryz.f35]
 by_cases hScan:w=jT
 ·subst hScan
  rcases h0 with rfl|⟨x,rfl⟩|⟨x,y,rfl⟩|⟨x,y,z,r,rfl⟩
  ·simp (disch:=omega) [zz,strs,zoT,tText,zZ,w8,j8,jT,yO,wQ,kG,wP,y4,kV,kY,yR,Tryz.f35]
  ·simp (disch:=omega) [zz,strs,zoT,tText,zZ,w8,j8,jT,yO,wQ,kG,wP,y4,kV,kY,yR,Tryz.f35]
  ·have hm:=zl8 x (hw x (by simp))
   simp (disch:=omega) [zz,strs,tText,zZ,w8,j8,jT,yO,wQ,kG,wP,y4,kV,kY,yR]
   refine zcv hm ?_
   simp (disch:=omega) [zz,zoT,tText,zZ,w8,j8,jT,yO,wQ,kG,wP,y4,kV,kY,yR,Tryz.f35]
  ·simp (disch:=omega) [zz,strs,hr3,hr0,zoT,tText,zZ,w8,j8,jT,yO,wQ,kG,wP,y4,kV,kY,yR,Tryz.f35]
 by_cases hEnv:w=yO
 ·subst hEnv
  rcases h0 with rfl|⟨x,rfl⟩|⟨x,y,rfl⟩|⟨x,y,z,r,rfl⟩
  ·simp (disch:=omega) [zz,strs,zoT,tText,zZ,w8,j8,jT,yO,wQ,kG,wP,y4,kV,kY,yR,Tryz.f35]
  ·simp (disch:=omega) [zz,strs,zoT,tText,zZ,w8,j8,jT,yO,wQ,kG,wP,y4,kV,kY,yR,Tryz.f35]
  ·simp (disch:=omega) [zz,strs,zoT,tText,zZ,w8,j8,jT,yO,wQ,kG,wP,y4,kV,kY,yR,Tryz.f35]
  ·simp (disch:=omega) [zz,strs,hr,hr1,hr0,zoT,tText,zZ,w8,j8,jT,yO,wQ,kG,wP,y4,kV,kY,yR,Tryz.f35]
 by_cases hKeep:w=wQ
 ·subst hKeep
  rcases h0 with rfl|⟨x,rfl⟩|⟨x,y,rfl⟩|⟨x,y,z,r,rfl⟩
  ·simp (disch:=omega) [zz,strs,zoT,tText,zZ,w8,j8,jT,yO,wQ,kG,wP,y4,kV,kY,yR,Tryz.f35]
  ·simp (disch:=omega) [zz,strs,zoT,tText,zZ,w8,j8,jT,yO,wQ,kG,wP,y4,kV,kY,yR,Tryz.f35]
  ·simp (disch:=omega) [zz,strs,zoT,tText,zZ,w8,j8,jT,yO,wQ,kG,wP,y4,kV,kY,yR,Tryz.f35]
  ·simp (disch:=omega) [zz,strs,hr,hr1,hr0,zoT,tText,zZ,w8,j8,jT,yO,wQ,kG,wP,y4,kV,kY,yR,Tryz.f35]
 by_cases hNeed:w=kG
 ·subst hNeed
  rcases h0 with rfl|⟨x,rfl⟩|⟨x,y,rfl⟩|⟨x,y,z,r,rfl⟩
  ·simp (disch:=omega) [zz,strs,zoT,tText,zZ,w8,j8,jT,yO,wQ,kG,wP,y4,kV,kY,yR,Tryz.f35]
  ·simp (disch:=omega) [zz,strs,zoT,tText,zZ,w8,j8,jT,yO,wQ,kG,wP,y4,kV,kY,yR,Tryz.f35]
  ·simp (disch:=omega) [zz,strs,zoT,tText,zZ,w8,j8,jT,yO,wQ,kG,wP,y4,kV,kY,yR,Tryz.f35]
  ·simp (disch:=omega) [zz,strs,hr,hr1,hr0,zoT,tText,zZ,w8,j8,jT,yO,wQ,kG,wP,y4,kV,kY,yR,Tryz.f35]
 by_cases hSort:w=wP
 ·subst hSort
  rcases h0 with rfl|⟨x,rfl⟩|⟨x,y,rfl⟩|⟨x,y,z,r,rfl⟩
  ·simp (disch:=omega) [zz,strs,zoT,tText,zZ,w8,j8,jT,yO,wQ,kG,wP,y4,kV,kY,yR,Tryz.f35]
  ·simp (disch:=omega) [zz,strs,zoT,tText,zZ,w8,j8,jT,yO,wQ,kG,wP,y4,kV,kY,yR,Tryz.f35]
  ·simp (disch:=omega) [zz,strs,zoT,tText,zZ,w8,j8,jT,yO,wQ,kG,wP,y4,kV,kY,yR,Tryz.f35]
  ·simp (disch:=omega) [zz,strs,hr,hr1,hr0,zoT,tText,zZ,w8,j8,jT,yO,wQ,kG,wP,y4,kV,kY,yR,Tryz.f35]
 by_cases hUniq:w=y4
 ·subst hUniq
  rcases h0 with rfl|⟨x,rfl⟩|⟨x,y,rfl⟩|⟨x,y,z,r,rfl⟩
  ·simp (disch:=omega) [zz,strs,zoT,tText,zZ,w8,j8,jT,yO,wQ,kG,wP,y4,kV,kY,yR,Tryz.f35]
  ·simp (disch:=omega) [zz,strs,zoT,tText,zZ,w8,j8,jT,yO,wQ,kG,wP,y4,kV,kY,yR,Tryz.f35]
  ·simp (disch:=omega) [zz,strs,zoT,tText,zZ,w8,j8,jT,yO,wQ,kG,wP,y4,kV,kY,yR,Tryz.f35]
  ·simp (disch:=omega) [zz,strs,hr,hr1,hr0,zoT,tText,zZ,w8,j8,jT,yO,wQ,kG,wP,y4,kV,kY,yR,Tryz.f35]
 by_cases hUpper:w=kV
 ·subst hUpper
  rcases h0 with rfl|⟨x,rfl⟩|⟨x,y,rfl⟩|⟨x,y,z,r,rfl⟩
  ·simp (disch:=omega) [zz,strs,zoT,tText,zZ,w8,j8,jT,yO,wQ,kG,wP,y4,kV,kY,yR,Tryz.f35]
  ·simp (disch:=omega) [zz,strs,zoT,tText,zZ,w8,j8,jT,yO,wQ,kG,wP,y4,kV,kY,yR,Tryz.f35]
  ·simp (disch:=omega) [zz,strs,zoT,tText,zZ,w8,j8,jT,yO,wQ,kG,wP,y4,kV,kY,yR,Tryz.f35]
  ·simp (disch:=omega) [zz,strs,hr,hr1,hr0,zoT,tText,zZ,w8,j8,jT,yO,wQ,kG,wP,y4,kV,kY,yR,Tryz.f35]
 by_cases hCount:w=kY
 ·subst hCount
  rcases h0 with rfl|⟨x,rfl⟩|⟨x,y,rfl⟩|⟨x,y,z,r,rfl⟩
  ·simp (disch:=omega) [zz,strs,zoT,tText,zZ,w8,j8,jT,yO,wQ,kG,wP,y4,kV,kY,yR,Tryz.f35]
  ·simp (disch:=omega) [zz,strs,zoT,tText,zZ,w8,j8,jT,yO,wQ,kG,wP,y4,kV,kY,yR,Tryz.f35]
  ·simp (disch:=omega) [zz,strs,zoT,tText,zZ,w8,j8,jT,yO,wQ,kG,wP,y4,kV,kY,yR,Tryz.f35]
  ·simp (disch:=omega) [zz,strs,hr,hr1,hr0,zoT,tText,zZ,w8,j8,jT,yO,wQ,kG,wP,y4,kV,kY,yR,Tryz.f35]
 by_cases hFail:w=yR
 ·subst hFail
  rcases h0 with rfl|⟨x,rfl⟩|⟨x,y,rfl⟩|⟨x,y,z,r,rfl⟩
  ·simp (disch:=omega) [zz,strs,zoT,tText,zZ,w8,j8,jT,yO,wQ,kG,wP,y4,kV,kY,yR,Tryz.f35]
  ·simp (disch:=omega) [zz,strs,zoT,tText,zZ,w8,j8,jT,yO,wQ,kG,wP,y4,kV,kY,yR,Tryz.f35]
  ·simp (disch:=omega) [zz,strs,zoT,tText,zZ,w8,j8,jT,yO,wQ,kG,wP,y4,kV,kY,yR,Tryz.f35]
  ·simp (disch:=omega) [zz,strs,hr,hr1,hr0,zoT,tText,zZ,w8,j8,jT,yO,wQ,kG,wP,y4,kV,kY,yR,Tryz.f35]
 have kText:¬w=[116,101,120,116]:=hText
 have kRead:¬w=[114,101,97,100]:=hRead
 have kTry:¬w=[116,114,121]:=hTry
 have kWrite:¬w=[119,114,105,116,101]:=hWrite
 have U8:¬w=[115,99,97,110]:=hScan
 have kEnv:¬w=[101,110,118]:=hEnv
 have kKeep:¬w=[107,101,101,112]:=hKeep
 have kNeed:¬w=[110,101,101,100]:=hNeed
 have kSort:¬w=[115,111,114,116]:=hSort
 have kUniq:¬w=[117,110,105,113]:=hUniq
 have kUpper:¬w=[117,112,112,101,114]:=hUpper
 have kCount:¬w=[99,111,117,110,116]:=hCount
 have kFail:¬w=[102,97,105,108]:=hFail
 have hv:zoT w ws=false:=by simp[zoT,hText,hRead,hTry,hWrite,hScan,hEnv,hKeep,hNeed,hSort,hUniq,hUpper,hCount,hFail]
 simp (disch:=omega) [zz,strs,kText,kRead,kTry,kWrite,U8,kEnv,kKeep,kNeed,kSort,kUniq,kUpper,kCount,kFail,hv,Tryz.f35]
theorem zyg:∀(l:List Txt) (i:Nat) (hi:i<l.length),(∀j (hj:j<i),vH (zR (l[j]'(by omega)))=true)→vH (zR l[i])=false→zbZ l=some (i+1)
 | [],i,hi,_,_=>by simp at hi
 | s::r,0,hi,_,h=>by
  have h':vH (zR s)=false:=h
  rw[zbZ,if_neg (by rw[h'];decide)]
 | s::r,i+1,hi,hg,h=>by
  have h0:vH (zR s)=true:=hg 0 (by omega)
  have hi2:i<r.length:=by simpa using hi
  have ih:=zyg r i hi2 (fun j hj=>hg (j+1) (by omega)) h
  rw[zbZ,if_pos h0,ih];rfl
theorem zy4:∀(l:List Txt),(∀j (hj:j<l.length),vH (zR l[j])=true)→zbZ l=none
 | [],_=>rfl
 | s::r,hg=>by
  have h0:vH (zR s)=true:=hg 0 (by simp)
  have ih:=zy4 r fun j hj=>hg (j+1) (by simpa using hj)
  rw[zbZ,if_pos h0,ih];rfl
theorem zxK:∀(l x:List UInt8),x∈zxI l→x.length≤l.length
 | [],x,h=>by simp[zxI]at h
 | b::l,x,h=>by
  rw[zxI]at h
  split at h
  ·rcases List.mem_cons.1 h with rfl|h
   ·simp
   ·have:=zxK l x h;simp only[List.length_cons];omega
  ·split at h
   ·rw[List.mem_singleton.1 h];simp
   ·rename_i y r hy
    rcases List.mem_cons.1 h with rfl|h
    ·have:=zxK l y (by rw[hy];simp);simp only[List.length_cons];omega
    ·have:=zxK l x (by rw[hy];simp[h]);simp only[List.length_cons];omega
set_option maxHeartbeats 16000000 in
theorem zy8 (t:Txt) (ht:t.length≤1000000):PC Tryz.prog 10 [.av .str (.s t)] (.tup [(.int .i64,.i .i64 (DV t).1),(.int .i64,.i .i64 (DV t).2)]):=by
 have hll:=ZE t
 have hlm:∀x∈z7 t,x.length≤1000000:=fun x hx=>by
  rw[zy7]at hx
  have:=zxK t x hx
  omega
 have hrl:=zyi t (by omega)
 have hck:DV t=if 65536<t.length∨400<(z7 t).length then((6:Int),(0:Int)) else match zbZ (z7 t)with
  | some n=>((3:Int),(n:Int))
  | none=>((0:Int),(0:Int)):=rfl
 obtain⟨L,hL⟩:∃L,L=z7 t:=⟨_,rfl⟩
 rw[←hL]at hll hlm hrl hck
 refine zow Tryz.func10 cf0 fun imm0 w0=>?_
 simp (disch:=omega) [zz]
 refine zcv hrl ?_
 by_cases h1:65536<t.length
 ·have h1':(65536:Int)<t.length:=by omega
  rw[if_pos (.inl h1)]at hck
  simp (disch:=omega) [zz,h1',hck,Tryz.f10]
 have h1':¬(65536:Int)<t.length:=by omega
 by_cases h2:400<L.length
 ·have h2':(400:Int)<L.length:=by omega
  rw[if_pos (.inr h2)]at hck
  simp (disch:=omega) [zz,h1',qX,h2',hck,Tryz.f10]
 have h2':¬(400:Int)<L.length:=by omega
 rw[if_neg (by omega)]at hck
 simp (disch:=omega) [zz,h1',qX,h2']
 refine AT.loop' (α:=Nat) (fun k=>St.of [(4,.av (.slice 9) (.sl .no (strs L))),(5,.av (.int .i64) (.i .i64 k))] [] (fun _=>0) [])
  (fun k=>k≤L.length∧∀j (h:j<L.length),j<k→vH (zR L[j])=true) (fun k=>L.length-k) 0 ?_ ?_ ?_
 ·apply Le.of<;>simp[qU,qG,zX]<;>try omega
 ·exact⟨by omega,fun j h hj=>by omega⟩
 rintro k ⟨hk,hall⟩ KL hN hE
 refine qM (cf:=cf0) laid mixed _ _ _ (by kernel_rfl) ?_
 by_cases hlt:k<L.length
 ·have hlt':(k:Int)<L.length:=by omega
  have hg:=yH L k hlt
  have hxl:=hlm _ (List.getElem_mem hlt)
  have hba:=zyg L k hlt fun j hj=>hall j (by omega) hj
  have hgo:∀h:vH (zR L[k])=true,∀j (hj:j<L.length),j<k+1→vH (zR L[j])=true:=fun h j hj hjk=>by
   rcases Nat.lt_or_ge j k with h'|h'
   ·exact hall j hj h'
   ·obtain rfl:j=k:=by omega
    exact h
  obtain⟨x,hx⟩:∃x,x=L[k]:=⟨_,rfl⟩
  rw[←hx]at hg hxl hba hgo
  have hwd:=zyh x hxl
  have hwe:∀w∈zR x,w≠[]∧w.length≤1000000:=fun w hw=>by
   have:=ZI hw
   exact⟨this.1,by have:=this.2;simp at this;omega⟩
  have hwl:(zR x).length≤1000001:=Nat.le_trans uI (by omega)
  simp (disch:=omega) [zz,hlt',hg,qX]
  refine zcv hwd ?_
  obtain⟨ws,hws⟩:∃ws,ws=zR x:=⟨_,rfl⟩
  rw[←hws]at hwe hwl hba hgo ⊢
  have hpa:=zyd ws (fun w hw=>(hwe w hw).1) (by omega)
  simp (disch:=omega) [zz]
  refine zcv hpa ?_
  cases hp:U4 ws with
  | true =>
   have hgd:vH ws=true:=by unfold vH;rw[hp];rfl
   simp (disch:=omega) [zz]
   refine hN _ (k+1) ?_ ⟨by omega,hgo hgd⟩ (by omega)
   apply Le.of<;>simp[qU,qG,zX]<;>try omega
  | false =>
   cases ws with
   | nil=>cases hp
   | cons w ws =>
    have hcm:=zy6 w ws (by simp only[List.length_cons]at hwl;omega) fun y hy=>by have:=(hwe y (by simp[hy])).2;omega
    simp (disch:=omega) [zz]
    refine zcv hcm ?_
    cases hc:zoT w ws with
    | true =>
     have hgd:vH (w::ws)=true:=by unfold vH;rw[hp];exact hc
     simp (disch:=omega) [zz]
     refine hN _ (k+1) ?_ ⟨by omega,hgo hgd⟩ (by omega)
     apply Le.of<;>simp[qU,qG,zX]<;>try omega
    | false =>
     have hgd:vH (w::ws)=false:=by unfold vH;rw[hp];exact hc
     rw[hba hgd]at hck
     simp only at hck
     simp (disch:=omega) [zz]
     refine hE _ _ (by simp) ?_
     simp (disch:=omega) [zz,hck,Tryz.f10]
 ·have hlt':¬(k:Int)<L.length:=by omega
  rw[zy4 L fun j hj=>hall j hj (by omega)]at hck
  simp only at hck
  simp (disch:=omega) [zz,hlt',qX]
  refine hE _ _ (by simp) ?_
  simp (disch:=omega) [zz,hck,Tryz.f10]
end Go.Proofs.YtooipdkilgpojaaGreatDoor
end
