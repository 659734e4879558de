/- The document's words, lines, commands. No condition beyond each theorem's own. -/
import Derived.Test.YthgocigdldgpgaaGreatDoorK20ToRW0
import Derived.Test.YthgocigdldgpgaaGreatDoorFW2ToPM0
import Derived.Test.YthgocigdldgpgaaGreatDoorK1ToK3
import Derived.Test.YthgocigdldgpgaaGreatDoorBR0ToKK1
import Derived.Test.YthgocigdldgpgaaGreatDoorAbSToSj
set_option linter.unusedSimpArgs false
set_option linter.unusedVariables false
set_option linter.unusedSectionVars false
section
set_option maxRecDepth 100000
namespace Go.Proofs.YthgocigdldgpgaaGreatDoor
open Go Go.Ab
open Classical
variable [Sel] [SelPow] [SelMax]
@[simp] theorem zyo:qZ Tryz.prog 47=true:=by kernel_rfl
@[simp] theorem zyy:z8 Tryz.prog (.func 47)=false:=q9 zyo
@[simp] theorem zyr:qZ Tryz.prog 46=true:=by kernel_rfl
@[simp] theorem zyx:z8 Tryz.prog (.func 46)=false:=q9 zyr
@[simp] theorem zys:qZ Tryz.prog 48=true:=by kernel_rfl
@[simp] theorem zyz:z8 Tryz.prog (.func 48)=false:=q9 zys
@[simp] theorem zyq:qZ Tryz.prog 49=true:=by kernel_rfl
@[simp] theorem zyC:z8 Tryz.prog (.func 49)=false:=q9 zyq
@[simp] theorem zyp:qZ Tryz.prog 17=true:=by kernel_rfl
@[simp] theorem zyA:z8 Tryz.prog (.func 17)=false:=q9 zyp
def zxI:List UInt8→List (List UInt8)
 | []=>[]
 | b::l=>if b=10 then []::zxI l else match zxI l with
  | []=>[[b]]
  | x::r=>(b::x)::r
theorem zy5:∀l:List UInt8,zxI (l++[10])=qT 10 l
 | []=>by simp[zxI,qT]
 | b::l=>by
  have ih:=zy5 l
  rw[List.cons_append,zxI,qT,ih]
  cases qT 10 l<;>rfl
theorem zy3:∀(l:List UInt8) (b:UInt8),b≠10→zxI (l++[b])=qT 10 (l++[b])
 | [],b,h=>by simp[zxI,qT,h]
 | c::l,b,h=>by
  have ih:=zy3 l b h
  rw[List.cons_append,zxI,qT,ih]
  cases qT 10 (l++[b])<;>rfl
theorem zy7 (l:List UInt8):z7 l=zxI l:=by
 unfold z7
 rcases List.eq_nil_or_concat l with rfl|⟨l',b,rfl⟩
 ·simp[zxI]
 rw[List.concat_eq_append]
 rw[if_neg (by simp)]
 by_cases hb:b=10
 ·subst hb
  rw[zy5]
  have hs:K8 (l'++[10]) [10]=l':=by
   unfold K8
   have:VY (l'++[10]) [10]=true:=by simp[VY]
   rw[if_pos this]
   simp
  rw[hs]
 ·rw[zy3 l' b hb]
  have hs:K8 (l'++[b]) [10]=l'++[b]:=by
   unfold K8
   have:VY (l'++[b]) [10]=false:=by simp[VY,hb]
   rw[if_neg (by rw[this];decide)]
  rw[hs]
theorem zy0:∀(a b:List UInt8),(∀x∈a,x≠10)→zxI (a++10::b)=a::zxI b
 | [],b,_=>by simp[zxI]
 | c::a,b,h=>by
  have ih:=zy0 a b fun x hx=>h x (by simp[hx])
  have hc:c≠10:=h c (by simp)
  rw[List.cons_append,zxI,if_neg hc,ih]
theorem zxY:∀(a:List UInt8),(∀x∈a,x≠10)→zxI a=if a=[] then [] else [a]
 | [],_=>rfl
 | c::a,h=>by
  have ih:=zxY a fun x hx=>h x (by simp[hx])
  have hc:c≠10:=h c (by simp)
  rw[zxI,if_neg hc,ih]
  cases a<;>simp
abbrev zyw:Cfg:=⟨fun _=>false,fun _=>false⟩
def tkA (d:Nat):Nat→Tok
 | 0=>.full
 | k+1=>.own d (k+1)
structure zxW (l:List UInt8) (i f:Nat) (L:List (List UInt8)):Prop where
 fi:f≤i
 il:i≤l.length
 few:L.length≤i
 all:zxI l=L++zxI (l.drop f)
 no:∀x∈(l.take i).drop f,x≠10
theorem zxW.start (l:List UInt8):zxW l 0 0 []:=⟨by omega,by omega,by simp,by simp,by simp⟩
theorem zyn {l:List UInt8} {i:Nat} (h:i<l.length):l.take (i+1)=l.take i++[l[i]]:=List.take_succ_eq_append_getElem h
theorem zxW.next {l:List UInt8} {i f:Nat} {L:List (List UInt8)} (h:zxW l i f L) (hi:i<l.length) (hc:l[i]≠10):zxW l (i+1) f L:=by
 have h1:=h.fi
 have h2:=h.few
 refine⟨by omega,by omega,by omega,h.all,fun x hx=>?_⟩
 rw[zyn hi,List.drop_append_of_le_length (by rw[List.length_take];omega)]at hx
 rcases List.mem_append.1 hx with hx|hx
 ·exact h.no x hx
 ·rw[List.mem_singleton.1 hx];exact hc
theorem zxW.line {l:List UInt8} {i f:Nat} {L:List (List UInt8)} (h:zxW l i f L) (hi:i<l.length) (hc:l[i]=10):zxW l (i+1) (i+1) (L++[(l.take i).drop f]):=by
 have h1:=h.fi
 have h2:=h.few
 refine⟨by omega,by omega,by rw[List.length_append,List.length_singleton];omega,?_,fun x hx=>by rw[List.drop_eq_nil_of_le (by rw[List.length_take];omega)]at hx;cases hx⟩
 have e:l.drop f=(l.take i).drop f++10::l.drop (i+1):=by
  conv=>lhs;rw[←List.take_append_drop i l]
  rw[List.drop_append_of_le_length (by rw[List.length_take];omega),List.drop_eq_getElem_cons hi,hc]
 rw[h.all,e,zy0 _ _ h.no]
 simp
theorem zxW.done {l:List UInt8} {f:Nat} {L:List (List UInt8)} (h:zxW l l.length f L):z7 l=L++if f<l.length then [l.drop f] else []:=by
 rw[zy7,h.all]
 have hn:∀x∈l.drop f,x≠10:=fun x hx=>h.no x (by rw[List.take_length];exact hx)
 rw[zxY _ hn]
 by_cases hf:f<l.length
 ·rw[if_pos hf,if_neg (by intro e;have:=congrArg List.length e;simp at this;omega)]
 ·rw[if_neg hf,if_pos (List.drop_eq_nil_of_le (by omega))]
set_option maxHeartbeats 8000000 in
theorem zyi (l:Txt) (hl:l.length≤1000000000):PC Tryz.prog 46 [.av .str (.s l)] (.av (.slice 9) (.sl .no (strs (z7 l)))):=by
 refine PC.of <| q7.of_vc laid mixed Tryz.func46 rfl zyw (by kernel_rfl) (by simp[Tryz.ntmps46]) fun imm0 w0=>?_
 (simp (maxSteps:=2000000) (disch:=first|omega|assumption) [zz,-List.reduceReplicate])
 refine AT.loop' (α:=Nat × Nat × List (List UInt8)) (fun x=>St.of [(0,.av .str (.s l)),(3,.av (.slice 9) (.sl (tkA 22 x.2.2.length) (strs x.2.2))),(4,.av (.int .i64) (.i .i64 x.2.1)),(5,.av (.int .i64) (.i .i64 x.1))] [] (fun j=>if j=22 then x.2.2.length else 0) [])
  (fun x=>zxW l x.1 x.2.1 x.2.2) (fun x=>l.length-x.1) (0,0,[]) ?_ ?_ ?_
 ·refine Le.of ?_ ?_ ?_ ?_ ?_<;>simp[qU,qG,tkA,strs]<;>try omega
 ·exact zxW.start l
 rintro⟨i,f,L⟩ hinv KL hN hE
 simp only at hinv hN
 refine qM (cf:=zyw) laid mixed _ _ _ (by kernel_rfl) ?_
 have hfi:=hinv.fi
 have hil:=hinv.il
 have hfw:=hinv.few
 by_cases hlt:i<l.length
 ·have hlt':(i:Int)<l.length:=by omega
  have hg:l[i]?=some l[i]:=List.getElem?_eq_getElem hlt
  by_cases hc:l[i]=10
  ·have hn:=hinv.line hlt hc
   have hcI:((l[i].toNat:Nat):Int)=10:=by rw[hc];rfl
   obtain⟨q,hq⟩:∃q,q=(l.take i).drop f:=⟨_,rfl⟩
   rw[←hq]at hn
   cases L with
   | nil =>
    (simp (maxSteps:=2000000) (disch:=first|omega|assumption) [zz,-List.reduceReplicate,hlt,hlt',hg,hcI,←hq,tkA])
    (repeat with_reducible refine om ?_)
    (simp (maxSteps:=2000000) (disch:=first|omega|assumption) [zz,-List.reduceReplicate,wB])
    (repeat with_reducible refine om ?_)
    refine hN _ (i+1,i+1,[q]) ?_ hn (by simp only;omega)
    refine Le.of ?_ ?_ ?_ ?_ ?_<;>simp[qU,qG,tkA,strs]<;>try omega
   | cons y L =>
    simp only[List.length_cons]at hfw
    (simp (maxSteps:=2000000) (disch:=first|omega|assumption) [zz,-List.reduceReplicate,hlt,hlt',hg,hcI,←hq,tkA,strs])
    (repeat with_reducible refine om ?_)
    (simp (maxSteps:=2000000) (disch:=first|omega|assumption) [zz,-List.reduceReplicate,wB])
    (repeat with_reducible refine om ?_)
    refine hN _ (i+1,i+1,(y::L)++[q]) ?_ hn (by simp only;omega)
    refine Le.of ?_ ?_ ?_ ?_ ?_<;>simp[qU,qG,tkA,strs]<;>try omega
    all_goals (intro j;by_cases hj:j=22<;>simp[hj])
  ·have hn:=hinv.next hlt hc
   have hcI:¬((l[i].toNat:Int)=10):=fun h=>hc (UInt8.toNat_inj.1 (by
                                          have:l[i].toNat=10:=by omega
                                          simpa using this))
   (simp (maxSteps:=2000000) (disch:=first|omega|assumption) [zz,-List.reduceReplicate,hlt,hlt',hg,hcI])
   refine hN _ (i+1,f,L) ?_ hn (by simp only;omega)
   refine Le.of ?_ ?_ ?_ ?_ ?_<;>simp[qU,qG,zX]<;>try omega
 ·have hin:i=l.length:=by omega
  subst hin
  have hlt':¬(l.length:Int)<l.length:=by omega
  have hd:=hinv.done
  (simp (maxSteps:=2000000) (disch:=first|omega|assumption) [zz,-List.reduceReplicate,hlt'])
  refine hE _ _ (by simp) ?_
  clear hN hE
  by_cases hf:f<l.length
  ·have hf':(f:Int)<l.length:=by omega
   rw[if_pos hf]at hd
   cases L with
   | nil =>
    (simp (maxSteps:=2000000) (disch:=first|omega|assumption) [zz,-List.reduceReplicate,hf',tkA])
    (repeat with_reducible refine om ?_)
    (simp (maxSteps:=2000000) (disch:=first|omega|assumption) [zz,-List.reduceReplicate,wB])
    (repeat with_reducible refine om ?_)
    (simp (maxSteps:=2000000) (disch:=first|omega|assumption) [zz,-List.reduceReplicate,hd,strs,AV.ers_eq,AV.er,Function.comp_def,Tryz.f46])
   | cons y L =>
    simp only[List.length_cons]at hfw
    (simp (maxSteps:=2000000) (disch:=first|omega|assumption) [zz,-List.reduceReplicate,hf',tkA,strs])
    (repeat with_reducible refine om ?_)
    (simp (maxSteps:=2000000) (disch:=first|omega|assumption) [zz,-List.reduceReplicate,wB])
    (repeat with_reducible refine om ?_)
    (simp (maxSteps:=2000000) (disch:=first|omega|assumption) [zz,-List.reduceReplicate,hd,strs,AV.ers_eq,AV.er,Function.comp_def,Tryz.f46])
  ·have hf':¬(f:Int)<l.length:=by omega
   rw[if_neg hf,List.append_nil]at hd
   (simp (maxSteps:=2000000) (disch:=first|omega|assumption) [zz,-List.reduceReplicate,hf',hd,Tryz.f46])
structure WI (l:List UInt8) (i:Nat) (inw:Bool) (ps:List (List UInt8)):Prop where
 il:i≤l.length
 few:ps.length≤i
 all:C5 inw ps (l.drop i)=zR l
 ne:inw=true→ps≠[]∧ps.getLastD []≠[]
 wl:∀x∈ps,x.length≤i
theorem WI.start (l:List UInt8):WI l 0 false []:=⟨by omega,by simp,by simp[C5,zR],by simp,by simp⟩
theorem WI.sep {l:List UInt8} {i:Nat} {inw:Bool} {ps:List (List UInt8)} (h:WI l i inw ps) (hi:i<l.length) (hc:vV l[i]=true):WI l (i+1) false ps:=by
 have h2:=h.few
 have ha:=h.all
 rw[List.drop_eq_getElem_cons hi]at ha
 refine⟨by omega,by omega,?_,(fun e=>by cases e),fun x hx=>by have:=h.wl x hx;omega⟩
 cases inw with
 | true =>
  obtain⟨h3,h4⟩:=h.ne rfl
  rw[zxZ h3 h4 hc]at ha
  exact ha
 | false =>
  rw[zxV hc]at ha
  exact ha
theorem WI.more {l:List UInt8} {i:Nat} {q:List (List UInt8)} {x:List UInt8} (h:WI l i true (q++[x])) (hi:i<l.length) (hc:vV l[i]=false):WI l (i+1) true (q++[x++[l[i]]]):=by
 have h2:=h.few
 have ha:=h.all
 rw[List.drop_eq_getElem_cons hi,zye (by simp) hc]at ha
 refine⟨by omega,by simp at h2 ⊢;omega,?_,fun _=>by simp,fun y hy=>?_⟩
 rotate_left
 ·rcases List.mem_append.1 hy with hy|hy
  ·have:=h.wl y (by simp[hy]);omega
  ·have:=h.wl x (by simp)
   rw[List.mem_singleton.1 hy];simp;omega
 rw[←ha]
 congr 1
 simp
theorem WI.new {l:List UInt8} {i:Nat} {ps:List (List UInt8)} (h:WI l i false ps) (hi:i<l.length) (hc:vV l[i]=false):WI l (i+1) true (ps++[[l[i]]]):=by
 have h2:=h.few
 have ha:=h.all
 rw[List.drop_eq_getElem_cons hi,zyb hc]at ha
 refine⟨by omega,by simp;omega,ha,fun _=>by simp,fun y hy=>?_⟩
 rcases List.mem_append.1 hy with hy|hy
 ·have:=h.wl y hy;omega
 ·rw[List.mem_singleton.1 hy];simp
theorem WI.done {l:List UInt8} {inw:Bool} {ps:List (List UInt8)} (h:WI l l.length inw ps):zR l=ps:=by
 have ha:=h.all
 rw[List.drop_length,zy9 inw ps h.ne]at ha
 exact ha.symm
theorem u8i (c d:UInt8):((c.toNat:Nat):Int)=((d.toNat:Nat):Int)↔c=d:=⟨fun h=>UInt8.toNat_inj.1 (by omega),fun h=>by rw[h]⟩
def zyl (ps:List (List UInt8)) (ta:AV) (TA:q8):Prop:=(ps=[]∧ta=.nsl∧TA=[])∨∃T cap rs,ta=.msl T 9 0 ps.length cap∧ps.length+rs.length=cap∧TA=[(T,.var (.arr cap 9) (.agg (strs (ps++rs))))]
theorem zyl.er {ps:List (List UInt8)} {ta:AV} {TA:q8} (h:zyl ps ta TA):ta.er=ta∧TA.er=TA:=by
 rcases h with⟨_,rfl,rfl⟩|⟨T,cap,rs,rfl,_,rfl⟩
 ·exact⟨rfl,rfl⟩
 ·refine⟨rfl,?_⟩
  simp[q8.er_cons,q8.er_nil,HObj.er_var,AV.erk,strs,AV.erks_eq,Function.comp_def]
theorem zyt {l:List UInt8} {i:Nat} (h:i<l.length):(l.take (i+1)).drop i=[l[i]]:=by
 rw[zyn h,List.drop_append_of_le_length (by rw[List.length_take];omega),List.drop_eq_nil_of_le (by rw[List.length_take];omega)]
 rfl
theorem atS (ps:List (List UInt8)) (y:AV) (R:List AV):(strs ps++y::R)[ps.length]?=some y:=by
 rw[List.getElem?_append_right (by simp[strs])]
 simp[strs]
theorem zyv (ps:List (List UInt8)) (y z:AV) (R:List AV):(strs ps++y::R).set ps.length z=strs ps++z::R:=by
 rw[List.set_append_right _ _ (by simp[strs])]
 simp[strs]
theorem zyf (x:List UInt8) (l:List (List UInt8)):strs (x::l)=AV.s x::strs l:=rfl
theorem zyk (n:Nat):strs (List.replicate n [])=List.replicate n (AV.s []):=by simp[strs]
abbrev zyu:Cfg:=⟨fun _=>false,fun n=>n==43⟩
set_option maxHeartbeats 16000000 in
theorem zyc (l:Txt) (hl:l.length≤1000000):q7 Tryz.prog 47 [.av .str (.s l)] [] fun r H'=>∃ta TA,r=.av (.slice 9) ta∧zyl (zR l) ta TA∧Ab.HSub TA H':=by
 refine q7.of_vc laid mixed Tryz.func47 rfl zyu (by kernel_rfl) (by simp[Tryz.ntmps47]) fun imm0 w0=>?_
 (simp (maxSteps:=2000000) (disch:=first|omega|assumption) [zz,-List.reduceReplicate])
 refine AT.nsl 3 9 (by simp ) ?_
 refine AT.loop' (α:=Nat × Bool × List (List UInt8) × AV × q8) (fun x=>St.of [(0,.av .str (.s l)),(3,.av (.slice 9) x.2.2.2.1),(4,.av .bool (.b x.2.1)),(5,.av (.int .i64) (.i .i64 x.1))] [] (fun _=>0) x.2.2.2.2)
  (fun x=>WI l x.1 x.2.1 x.2.2.1∧zyl x.2.2.1 x.2.2.2.1 x.2.2.2.2) (fun x=>l.length-x.1) (0,false,[],.nsl,[]) ?_ ?_ ?_
 ·refine Le.of ?_ ?_ ?_ ?_ ?_<;>simp[qU,qG,zX]<;>try omega
 ·exact⟨WI.start l,.inl ⟨rfl,rfl,rfl⟩⟩
 rintro⟨i,inw,ps,ta,TA⟩ ⟨hinv,hrow⟩ KL hN hE
 simp only at hinv hrow hN
 have hil:=hinv.il
 have hfw:=hinv.few
 refine qM (cf:=zyu) laid mixed _ _ _ (by kernel_rfl) ?_
 by_cases hlt:i<l.length
 ·have hlt':(i:Int)<l.length:=by omega
  have hg:l[i]?=some l[i]:=List.getElem?_eq_getElem hlt
  have h32:((l[i].toNat:Nat):Int)=32↔l[i]=32:=u8i l[i] 32
  have h9:((l[i].toNat:Nat):Int)=9↔l[i]=9:=u8i l[i] 9
  by_cases hs:vV l[i]=true
  ·have hn:=hinv.sep hlt hs
   by_cases e32:l[i]=32
   ·have e32':=h32.2 e32
    (simp (maxSteps:=2000000) (disch:=first|omega|assumption) [zz,-List.reduceReplicate,hlt,hlt',hg,e32'])
    refine hN _ (i+1,false,ps,ta,TA) ?_ ⟨hn,hrow⟩ (by simp only;omega)
    refine Le.of ?_ ?_ ?_ ?_ ?_<;>simp[qU,qG,zX]<;>try omega
   ·have e32':¬((l[i].toNat:Nat):Int)=32:=fun h=>e32 (h32.1 h)
    have e9':=h9.2 (by simpa[vV,e32]using hs)
    (simp (maxSteps:=2000000) (disch:=first|omega|assumption) [zz,-List.reduceReplicate,hlt,hlt',hg,e32',e9'])
    refine hN _ (i+1,false,ps,ta,TA) ?_ ⟨hn,hrow⟩ (by simp only;omega)
    refine Le.of ?_ ?_ ?_ ?_ ?_<;>simp[qU,qG,zX]<;>try omega
  have hs':vV l[i]=false:=by simpa using hs
  have e32':¬((l[i].toNat:Nat):Int)=32:=fun h=>by simp[vV,h32.1 h]at hs'
  have e9':¬((l[i].toNat:Nat):Int)=9:=fun h=>by simp[vV,h9.1 h]at hs'
  cases inw with
  | true =>
   obtain⟨hne,hla⟩:=hinv.ne rfl
   rcases hrow with⟨h1,_⟩|⟨T,cap,rs,rfl,hcap,rfl⟩
   ·exact absurd h1 hne
   obtain⟨q,x,rfl⟩:∃q x,ps=q++[x]:=⟨_,_,zxN hne⟩
   have hn:=hinv.more hlt hs'
   have hcut:=zyt hlt
   simp only[List.length_append,List.length_singleton]at hfw hcap
   have hwl:=hinv.wl x (by simp)
   have hps:strs (q++[x]++rs)=strs q++AV.s x::strs rs:=by rw[Z6,Z6];simp[strs]
   have hat:=atS q (.s x) (strs rs)
   have hst:=fun z=>zyv q (.s x) z (strs rs)
   rw[hps]
   obtain⟨c,hcc⟩:∃c,c=l[i]:=⟨_,rfl⟩
   rw[←hcc]at hcut hn
   (simp (maxSteps:=2000000) (disch:=first|omega|assumption) [zz,-List.reduceReplicate,hlt,hlt',hg,e32',e9',List.length_append,hat,hst,hcut])
   (repeat with_reducible refine om ?_)
   refine hN _ (i+1,true,q++[x++[c]],.msl T 9 0 (q.length+1) cap,[(T,.var (.arr cap 9) (.agg (strs (q++[x++[c]]++rs))))]) ?_ ⟨hn,.inr ⟨T,cap,rs,by simp,by simp;omega,rfl⟩⟩ (by simp only;omega)
   refine Le.of ?_ ?_ ?_ ?_ ?_<;>simp[qU,qG,Z6,zyf,strs]<;>try omega
  | false =>
   have hn:=hinv.new hlt hs'
   have hcut:=zyt hlt
   rcases hrow with⟨rfl,rfl,rfl⟩|⟨T,cap,rs,rfl,hcap,rfl⟩
   ·(simp (maxSteps:=2000000) (disch:=first|omega|assumption) [zz,-List.reduceReplicate,hlt,hlt',hg,e32',e9',hcut])
    (repeat with_reducible refine om ?_)
    intro b cap hcap
    (repeat with_reducible refine om ?_)
    refine hN _ (i+1,true,[[l[i]]],.msl b 9 0 1 cap,[(b,.var (.arr cap 9) (.agg (strs ([[l[i]]]++List.replicate (cap-1) []))))]) ?_ ⟨hn,.inr ⟨b,cap,List.replicate (cap-1) [],by simp,by simp;omega,rfl⟩⟩ (by simp only;omega)
    refine Le.of ?_ ?_ ?_ ?_ ?_<;>simp[qU,qG,Z6,zyf,zyk,strs]<;>try omega
   ·have e1:List.take ps.length (strs (ps++rs))=strs ps:=by rw[Z6,List.take_left' (by simp[strs])]
    have e2:List.drop (ps.length+1) (strs (ps++rs))=strs (rs.drop 1):=by
     rw[Z6,List.drop_append]
     simp[strs]
    have hat:=fun R=>atS ps (.s []) R
    have hst:=fun z R=>zyv ps (.s []) z R
    (simp (maxSteps:=2000000) (disch:=first|omega|assumption) [zz,-List.reduceReplicate,hlt,hlt',hg,e32',e9',e1,e2,hcut,hat,hst])
    (repeat with_reducible refine om ?_)
    refine⟨fun hc=>?_,fun hc b2 cap2 hb2 hc2=>?_⟩
    ·(repeat with_reducible refine om ?_)
     refine hN _ (i+1,true,ps++[[l[i]]],.msl T 9 0 (ps.length+1) cap,[(T,.var (.arr cap 9) (.agg (strs (ps++[[l[i]]]++rs.drop 1))))]) ?_ ⟨hn,.inr ⟨T,cap,rs.drop 1,by simp,by simp;omega,rfl⟩⟩ (by simp only;omega)
     refine Le.of ?_ ?_ ?_ ?_ ?_<;>simp[qU,qG,Z6,zyf,zyk,strs]<;>try omega
    ·(repeat with_reducible refine om ?_)
     refine hN _ (i+1,true,ps++[[l[i]]],.msl b2 9 0 (ps.length+1) cap2,[(b2,.var (.arr cap2 9) (.agg (strs (ps++[[l[i]]]++List.replicate (cap2-(ps.length+1)) []))))]) ?_ ⟨hn,.inr ⟨b2,cap2,List.replicate (cap2-(ps.length+1)) [],by simp,by simp;omega,rfl⟩⟩ (by simp only;omega)
     refine Le.of ?_ ?_ ?_ ?_ ?_<;>simp[qU,qG,Z6,zyf,zyk,strs]<;>try omega
 ·have hin:i=l.length:=by omega
  subst hin
  have hlt':¬(l.length:Int)<l.length:=by omega
  have hd:=hinv.done
  (simp (maxSteps:=2000000) (disch:=first|omega|assumption) [zz,-List.reduceReplicate,hlt'])
  refine hE _ _ (by simp) ?_
  obtain⟨t1,t2⟩:=hrow.er
  (simp (maxSteps:=2000000) (disch:=first|omega|assumption) [zz,-List.reduceReplicate,t1,t2,Tryz.f47])
  rw[hd]
  exact⟨TA,hrow,HSub.refl _⟩
theorem zyh (l:Txt) (hl:l.length≤1000000):PC Tryz.prog 47 [.av .str (.s l)] (.av (.slice 9) (.sl .no (strs (zR l)))):=by
 refine q7.nilR (R:=fun r H'=>(r=.av (.slice 9) (.sl .no (strs (zR l)))∧H'=[])∨(zR l=[]∧r=.av (.slice 9) .nsl∧H'=[])) ?_ ?_
 ·refine q7.freeze (R:=fun r H'=>∃ta TA,r=.av (.slice 9) ta∧zyl (zR l) ta TA∧H'=TA) laid ?_ ?_
  ·exact q7.sub (zyc l hl) fun r H' ⟨ta,TA,h1,h2,h3⟩ _=>⟨TA,h3,ta,TA,h1,h2,rfl⟩
  ·rintro r H' ⟨ta,TA,rfl,hrow,rfl⟩ _
   rcases hrow with⟨h1,rfl,rfl⟩|⟨T,cap,rs,rfl,hcap,rfl⟩
   ·exact .inr (.inr ⟨h1,rfl,rfl⟩)
   ·left
    refine⟨T,cap,9,_,[],List.Perm.refl _,.inl ⟨?_,rfl⟩⟩
    simp only[zho,fzA]
    rw[if_pos ⟨trivial,trivial,by omega,by omega⟩,List.drop_zero,Z6,List.take_left' (by simp[strs])]
 ·rintro r H' (⟨rfl,rfl⟩|⟨h1,rfl,rfl⟩)
  ·exact .inl ⟨rfl,rfl⟩
  ·right
   exact⟨_,rfl,by rw[h1];rfl,rfl⟩
theorem zyd (ws:List Txt) (h:∀w∈ws,w≠[]) (hl:ws.length≤1000000000):PC Tryz.prog 48 [.av (.slice 9) (.sl .no (strs ws))] (.av .bool (.b (U4 ws))):=by
 refine PC.of <| q7.of_vc laid mixed Tryz.func48 rfl cf0 (by kernel_rfl) (by simp[Tryz.ntmps48]) fun imm0 w0=>?_
 cases ws with
 | nil=>(simp (maxSteps:=2000000) (disch:=first|omega|assumption) [zz,-List.reduceReplicate,strs,U4,Tryz.f48])
 | cons w r =>
  have hw:=h w (by simp)
  cases w with
  | nil=>exact absurd rfl hw
  | cons c w' =>
   have hr:¬(r.length:Int)+1=0:=by omega
   have h35:=u8i c 35
   by_cases hc:c=35
   ·have hcI:((c.toNat:Nat):Int)=35:=h35.2 hc
    (simp (maxSteps:=2000000) (disch:=first|omega|assumption) [zz,-List.reduceReplicate,strs,U4,hr,hcI,hc,Tryz.f48])
   ·have hcI:¬((c.toNat:Nat):Int)=35:=fun e=>hc (h35.1 e)
    (simp (maxSteps:=2000000) (disch:=first|omega|assumption) [zz,-List.reduceReplicate,strs,U4,hr,hc,hcI,Tryz.f48])
end Go.Proofs.YthgocigdldgpgaaGreatDoor
end
