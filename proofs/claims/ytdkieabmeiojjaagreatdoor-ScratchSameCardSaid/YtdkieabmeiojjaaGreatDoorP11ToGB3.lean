/- The reference's May, Dir, Under. No condition. -/
import Derived.Test.YtdkieabmeiojjaaGreatDoorGB1ToP10
import Derived.Test.YtdkieabmeiojjaaGreatDoorK11ToSD0
set_option linter.unusedSimpArgs false
set_option linter.unusedVariables false
set_option linter.unusedSectionVars false
set_option maxHeartbeats 64000000
set_option maxRecDepth 100000
namespace Go.Proofs.YtdkieabmeiojjaaGreatDoor
open Go Go.Ab
open Classical
section
variable [Sel]
theorem DO:∀(x:List UInt8),(47:UInt8)∉x->qK 47 x=[x]
 | [],_=>rfl
 | b::l,h=>by
  simp only[List.mem_cons,not_or]at h
  rw[qK,if_neg (fun e=>h.1 e.symm),DO l h.2]
end
section
variable [Sel] [SelPow] [SelMax]
def YF (c:UInt8):Bool:=yH c.toNat
def zb6 (c:UInt8):Bool:=decide (c=63)||decide (c=42)
def uU:List UInt8->Bool
 | []=>true
 | c::r=>(YF c||zb6 c)&&(!KG (c::r) [42,42]&&uU r)
def XI (s:List UInt8):Bool:=decide (s=[42,42])||(uU s&&decide (1<=s.length/\s.length<=64/\s≠[46]/\s≠[46,46]))
def CK (p:List UInt8):Bool:=decide ((qK 47 p).length<=16)&&(qK 47 p).all XI
theorem zpB (c:UInt8):(w5 [97,c,97]&&decide (c≠47))=YF c:=by
 by_cases h:c=47
 ·subst h;decide
 ·have hs:qK 47 [97,c,97]=[[97,c,97]]:=DO _ (by simp[Ne.symm h])
  have h1:yH 97=true:=by decide
  unfold w5
  rw[hs]
  simp[XC,h1,h,YF]
theorem zkG (c:UInt8):PC Tryz.prog 162 [.av (.int .u8) (.i .u8 c.toNat)] (.av .bool (.b (YF c))):=by
 have hm:=zpB c
 by_cases h:c=47
 ·subst h
  have hb:w5 [97,47,97]=true:=by decide
  have hp:YF 47=false:=by decide
  refine zow Tryz.func162 cf0 fun imm0 w0=>?_
  simp (disch:=omega) [zz]
  refine zcv (YW [97,47,97] (by simp)) ?_
  simp (disch:=omega) [zz,hb,hp,Tryz.f162]
 have h':¬(c.toNat:Int)=47:=by have:=za9 (n:=47) (by omega) h;simpa using this
 have hd:decide (c≠47)=true:=by simpa using h
 rw[hd,Bool.and_true]at hm
 refine zow Tryz.func162 cf0 fun imm0 w0=>?_
 simp (disch:=omega) [zz]
 refine zcv (YW [97,c,97] (by simp)) ?_
 rw[hm]
 cases hp:YF c
 ·simp (disch:=omega) [zz,Tryz.f162,hp]
 ·simp (disch:=omega) [zz,h',Tryz.f162,hp]
theorem zjX {s:List UInt8} {k:Nat} {c:UInt8} (h:s[k]?=some c):uU (s.drop k)=((YF c||zb6 c)&&(!KG (s.drop k) [42,42]&&uU (s.drop (k+1)))):=by
 rw[ZE h,uU]
theorem zlu (s:List UInt8) (hs:s.length<=1000000000):PC Tryz.prog 133 [.av .str (.s s)] (.av .bool (.b (XI s))):=by
 refine zow Tryz.func133 cf0 fun imm0 w0=>?_
 by_cases h0:s=[42,42]
 ·have:XI s=true:=by simp[XI,h0]
  simp (disch:=omega) [zz,h0,Tryz.f133]
  rw[<-h0];exact this
 have hpg:XI s=(uU s&&decide (1<=s.length/\s.length<=64/\s≠[46]/\s≠[46,46])):=by simp[XI,h0]
 simp (disch:=omega) [zz,h0]
 refine AT.loop' (α:=Nat) (fun k=>St.of [(0,.av .str (.s s)),(7,.av (.int .i64) (.i .i64 s.length)),(8,.av (.int .i64) (.i .i64 k))] [] (fun _=>0) []) (fun k=>k<=s.length/\uU s=uU (s.drop k)) (fun k=>s.length-k) 0 ?_ ?_ ?_
 ·apply Le.of<;>simp[le9,z6]<;>try omega
 ·simp
 rintro k ⟨hk,hg⟩ KL hN hE
 refine zrd cf0 ?_
 by_cases hlt:k<s.length
 rotate_left
 ·have hlt':¬(k:Int)<s.length:=by omega
  rw[List.drop_of_length_le (by omega)]at hg
  have hgt:uU s=true:=hg
  simp (disch:=omega) [zz,hlt']
  refine hE _ _ (by simp) ?_
  rw[hpg,hgt,Bool.true_and]
  by_cases h1:1<=s.length
  rotate_left
  ·have h1':¬(1:Int)<=s.length:=by omega
   simp (disch:=omega) [zz,h1,h1',Tryz.f133]
  have h1':(1:Int)<=s.length:=by omega
  by_cases h2:s.length<=64
  rotate_left
  ·have h2':¬(s.length:Int)<=64:=by omega
   simp (disch:=omega) [zz,h1,h1',h2,h2',Tryz.f133]
  have h2':(s.length:Int)<=64:=by omega
  by_cases h3:s=[46]
  ·simp (disch:=omega) [zz,h3,Tryz.f133]
  by_cases h4:s=[46,46]
  ·simp (disch:=omega) [zz,h4,Tryz.f133]
  simp (disch:=omega) [zz,h1,h1',h2,h2',h3,h4,Tryz.f133]
 have hlt':(k:Int)<s.length:=by omega
 obtain⟨c,hc⟩:∃c,c=s[k]:=⟨_,rfl⟩
 have hsc:s[k]=c:=hc.symm
 have hgc:s[k]?=some c:=by rw[List.getElem?_eq_getElem hlt,hsc]
 have hat:=zjX hgc
 have hdl:(s.drop k).length<=1000000000:=by rw[List.length_drop];omega
 have bad:YF c=false->zb6 c=false->XI s=false:=by
  intro h1 h2
  rw[hpg,hg,hat,h1,h2];rfl
 have pre:KG (s.drop k) [42,42]=true->XI s=false:=by
  intro h1
  rw[hpg,hg,hat,h1];simp
 have on:(YF c||zb6 c)=true->KG (s.drop k) [42,42]=false->uU s=uU (s.drop (k+1)):=by
  intro h1 h2
  rw[hg,hat,h1,h2];rfl
 simp (disch:=omega) [zz,hlt',hsc]
 refine zcv (zkG c) ?_
 cases hp:YF c
 ·by_cases h63:c=63
  ·subst h63
   simp (disch:=omega) [zz,hsc]
   try (repeat with_reducible refine om ?_)
   refine qO (KV (s.drop k) [42,42] (by omega) (by simp)) rfl rfl (by simp) (by simp[qR,coC,TV.er,AV.er]) ?_
   cases hh:KG (s.drop k) [42,42]
   ·simp (disch:=omega) [zz,hh]
    refine hN _ (k+1) ?_ ⟨by omega,on (by decide) hh⟩ (by omega)
    apply Le.of<;>simp[le9,z6]<;>try omega
   ·simp (disch:=omega) [zz,hh]
    refine hE _ _ (by simp) ?_
    simp (disch:=omega) [zz,Tryz.f133,pre hh]
  have h63':¬(c.toNat:Int)=63:=by have:=za9 (n:=63) (by omega) h63;simpa using this
  by_cases h42:c=42
  ·subst h42
   simp (disch:=omega) [zz,hsc,h63']
   try (repeat with_reducible refine om ?_)
   refine qO (KV (s.drop k) [42,42] (by omega) (by simp)) rfl rfl (by simp) (by simp[qR,coC,TV.er,AV.er]) ?_
   cases hh:KG (s.drop k) [42,42]
   ·simp (disch:=omega) [zz,hh]
    refine hN _ (k+1) ?_ ⟨by omega,on (by decide) hh⟩ (by omega)
    apply Le.of<;>simp[le9,z6]<;>try omega
   ·simp (disch:=omega) [zz,hh]
    refine hE _ _ (by simp) ?_
    simp (disch:=omega) [zz,Tryz.f133,pre hh]
  have h42':¬(c.toNat:Int)=42:=by have:=za9 (n:=42) (by omega) h42;simpa using this
  have hw:zb6 c=false:=by simp[zb6,h63,h42]
  simp (disch:=omega) [zz,hsc,h63',h42']
  try (repeat with_reducible refine om ?_)
  refine hE _ _ (by simp) ?_
  simp (disch:=omega) [zz,Tryz.f133,bad hp hw]
 ·simp (disch:=omega) [zz,hsc]
  try (repeat with_reducible refine om ?_)
  refine qO (KV (s.drop k) [42,42] (by omega) (by simp)) rfl rfl (by simp) (by simp[qR,coC,TV.er,AV.er]) ?_
  cases hh:KG (s.drop k) [42,42]
  ·simp (disch:=omega) [zz,hh]
   refine hN _ (k+1) ?_ ⟨by omega,on (by rw[hp];rfl) hh⟩ (by omega)
   apply Le.of<;>simp[le9,z6]<;>try omega
  ·simp (disch:=omega) [zz,hh]
   refine hE _ _ (by simp) ?_
   simp (disch:=omega) [zz,Tryz.f133,pre hh]
theorem V4 (l:List UInt8) (hl:l.length<=2000000):PC Tryz.prog 131 [.av .str (.s l),.av .str (.s [47])] (.av (.slice 9) (.sl .no (strs (qK 47 l)))):=by
 refine cQ.freeze laid (by simp) ((zcY l 47 hl).mono ?_)
 rintro r H' ⟨b,rfl,rfl⟩
 exact .inr ⟨b,rfl,rfl⟩
theorem zlX (x:List UInt8) (hx:x.length<=1000000000):PC Tryz.prog 132 [.av .str (.s x)] (.av .bool (.b (!XI x))):=by
 refine zow Tryz.func132 cf0 fun imm0 w0=>?_
 simp (disch:=omega) [zz]
 refine zcv (zlu x hx) ?_
 simp (disch:=omega) [zz,Tryz.f132]
theorem zgG (p:List UInt8) (hp:p.length<=2000000):PC Tryz.prog 102 [.av .str (.s p)] (.av .bool (.b (CK p))):=by
 refine zow Tryz.func102 cf0 fun imm0 w0=>?_
 have hle:=U0 47 p
 have hlen:∀x∈qK 47 p,x.length<=p.length:=fun x hx=>QN 47 p x hx
 simp (disch:=omega) [zz]
 refine qO (V4 p hp) rfl rfl (by simp) (by simp[qR,coC,TV.er,AV.er]) ?_
 by_cases h16:(qK 47 p).length<=16
 ·have h16':((qK 47 p).length:Int)<=16:=by omega
  simp (disch:=omega) [zz,h16']
  refine qD (R:=fun r H'=>r=.av .bool (.b ((qK 47 p).any fun x=>!XI x))/\H'=[]) [] [] (by simp) rfl (by simp[qE]) (by simp) ?_ ?_
  ·have:=U2 (fun x=>!XI x) (.fn 132 []) [] (qK 47 p) ⟨rfl,rfl,fun x hx=>⟨[],rfl,by simp,by have h9:=zlX x (by have:=hlen x hx;omega);unfold PC at h9;simpa[TV.er,AV.er]using h9⟩⟩ (by omega)
   simpa[TV.er,AV.er]using this
  rintro r H' ⟨rfl,rfl⟩ _
  refine⟨[],by simpa using HSub.refl _,?_⟩
  have he:CK p=!((qK 47 p).any fun x=>!XI x):=by
   simp only[CK,h16,decide_true,Bool.true_and,List.all_eq_not_any_not]
  simp (disch:=omega) [zz,Tryz.f102,he]
 ·have h16':¬((qK 47 p).length:Int)<=16:=by omega
  simp (disch:=omega) [zz,h16',Tryz.f102,CK,h16]
def VX (f:List Txt->Bool):List Txt->Bool
 | []=>f []
 | c::cs=>f (c::cs)||VX f cs
def kU:List Txt->List Txt->Bool
 | [],ns=>ns.isEmpty
 | x::xs,ns=>if x=[42,42] then(if xs=[] then !ns.isEmpty else VX (kU xs) ns) else match ns with
  | []=>false
  | n::ms=>Z4 x n&&kU xs ms
def uF (p s:Txt):Bool:=CK p&&w5 s&&kU (qK 47 p) (qK 47 s)
abbrev VP:TyD:=.map 208 4
abbrev TsT:TyD:=.slice 9
def YE (a:Nat × Nat):AV:=.agg [.i .i64 a.1,.i .i64 a.2]
def W4 (m:List ((Nat × Nat) × Bool)):List (AV × AV):=m.map fun x=>(YE x.1,.b x.2)
def vA (ps ns:List Txt) (m:List ((Nat × Nat) × Bool)):Prop:=∀x∈m,x.2=true->kU (ps.drop x.1.1) (ns.drop x.1.2)=false
theorem ze2 {a b:Nat × Nat}:YE a=YE b<->a=b:=by
 obtain⟨a1,a2⟩:=a;obtain⟨b1,b2⟩:=b
 simp only[YE,AV.agg.injEq,List.cons.injEq,AV.i.injEq,Prod.mk.injEq,true_and,and_true]
 omega
theorem zae (a:Nat × Nat):∀m:List ((Nat × Nat) × Bool),wQ (YE a) (W4 m)=none\/∃b,wQ (YE a) (W4 m)=some (.b b)/\(a,b)∈m
 | []=>.inl rfl
 | (x,b)::m=>by
  have ih:=zae a m
  simp only[W4,List.map_cons,wQ,ze2]
  by_cases h:x=a
  ·subst h;rw[if_pos rfl];exact .inr ⟨b,rfl,by simp⟩
  ·rw[if_neg h]
   rcases ih with ih|⟨c,h1,h2⟩
   ·exact .inl ih
   ·exact .inr ⟨c,h1,by simp[h2]⟩
theorem dA (ps ns:List Txt) (a:Nat × Nat) (v:Bool) (hv:v=true->kU (ps.drop a.1) (ns.drop a.2)=false):∀m:List ((Nat × Nat) × Bool),vA ps ns m->∃m',K3 (YE a) (.b v) (W4 m)=W4 m'/\vA ps ns m'
 | [],_=>⟨[(a,v)],rfl,fun x hx h=>by
  rw[List.mem_singleton.1 hx]at h |-;exact hv h⟩
 | (x,b)::m,hm=>by
  obtain⟨m',h1,h2⟩:=dA ps ns a v hv m fun y hy=>hm y (by simp[hy])
  simp only[W4,List.map_cons,K3,ze2]
  by_cases h:x=a
  ·subst h;rw[if_pos rfl]
   refine⟨(x,v)::m,rfl,fun y hy hh=>?_⟩
   rcases List.mem_cons.1 hy with rfl|hy
   ·exact hv hh
   ·exact hm y (by simp[hy]) hh
  ·rw[if_neg h]
   refine⟨(x,b)::m',by simp only[W4]at h1;rw[h1];rfl,fun y hy hh=>?_⟩
   rcases List.mem_cons.1 hy with rfl|hy
   ·exact hm _ (by simp) hh
   ·exact h2 y hy hh
noncomputable def WR (l:List Txt):HObj:=.var TsT (.sl .no (strs l))
noncomputable def zpn (N:Nat):HObj:=.var VP (.map (some N))
def znC (b5 b6 b7 b8:Nat):AV:=.fn 154 [.ptr b5 TsT [],.ptr b6 TsT [],.ptr b7 VP [],.ptr b8 .func []]
noncomputable def yK (b5 b6 b7 b8 N:Nat) (ps ns:List Txt) (m:List ((Nat × Nat) × Bool)):q8:=[(b5,WR ps),(b6,WR ns),(b7,zpn N),(b8,.var .func (znC b5 b6 b7 b8)),(N,.map 208 4 (W4 m))]
theorem uL (b5 b6 b7 b8 N:Nat) (ps ns:List Txt) (m:List ((Nat × Nat) × Bool)):(yK b5 b6 b7 b8 N ps ns m).er=yK b5 b6 b7 b8 N ps ns m:=by
 have h1:∀l,(WR l).er=WR l:=fun l=>by simp[WR,HObj.er_var,AV.erk]
 have h2:(HObj.map 208 4 (W4 m)).er=.map 208 4 (W4 m):=by
  simp[HObj.er_map,W4,YE,AV.er,AV.ers,Function.comp_def]
 simp only[yK,q8.er_cons,q8.er_nil,h1,h2];rfl
abbrev zqp:Cfg:=⟨fun _=>false,fun n=>n==52⟩
theorem zmc (m:List ((Nat × Nat) × Bool)):(W4 m).map (fun p=>(p.1.er,p.2.er))=W4 m:=by
 simp[W4,YE,AV.er,AV.ers,Function.comp_def]
theorem cU {xs ns:List Txt} (h:xs≠[]):kU ([42,42]::xs) ns=VX (kU xs) ns:=by
 cases xs with
 | nil=>exact absurd rfl h
 | cons y r=>cases ns<;>simp[kU]
theorem ziu {x n:Txt} {xs ms:List Txt} (h:x≠[42,42]):kU (x::xs) (n::ms)=(Z4 x n&&kU xs ms):=by
 simp[kU,h]
theorem zm4 (b5 b6 b7 b8 N:Nat) (ps ns:List Txt) (hps:ps.length<=2000000) (hns:ns.length<=2000000) (hpl:∀x∈ps,x.length<=2000000) (hnl:∀x∈ns,x.length<=2000000):∀(z i k:Nat) (m:List ((Nat × Nat) × Bool)),(ps.length-i)+(ns.length-k)<z->i<=ps.length->k<=ns.length->vA ps ns m->
  q7 Tryz.prog 154 [.av (.int .i64) (.i .i64 i),.av (.int .i64) (.i .i64 k),.av .ptr (.ptr b5 TsT []),.av .ptr (.ptr b6 TsT []),.av .ptr (.ptr b7 VP []),.av .ptr (.ptr b8 .func [])] (yK b5 b6 b7 b8 N ps ns m)
   fun r H'=>r=.av .bool (.b (kU (ps.drop i) (ns.drop k)))/\∃m',vA ps ns m'/\H'=yK b5 b6 b7 b8 N ps ns m':=by
 intro z
 induction z with
 | zero=>intro i k m hz;omega
 | succ z ih =>
  intro i k m hz hi hk hm
  refine q7.nodup fun hnd=>?_
  simp[yK,q8.keys]at hnd
  obtain⟨⟨n1,n2,n3,n4⟩,⟨n5,n6,n7⟩,⟨n8,n9⟩,n10⟩:=hnd
  have sy:∀ {a b:Nat},¬a=b->¬b=a:=fun h e=>h e.symm
  have n1':=sy n1;have n2':=sy n2;have n3':=sy n3;have n4':=sy n4;have n5':=sy n5;have n6':=sy n6;have n7':=sy n7;have n8':=sy n8;have n9':=sy n9;have n10':=sy n10
  have hme:=zmc
  refine q7.sub (R:=fun r H'=>r=.av .bool (.b (kU (ps.drop i) (ns.drop k)))/\∃m',vA ps ns m'/\H'=yK b5 b6 b7 b8 N ps ns m') ?_ fun r H' h _=>⟨H',HSub.refl _,h⟩
  refine zov Tryz.func154 zqp fun imm0 w0=>?_
  rw[show yK b5 b6 b7 b8 N ps ns m=[(b5,.var TsT (.sl .no (strs ps))),(b6,.var TsT (.sl .no (strs ns))),(b7,.var VP (.map (some N))),(b8,.var .func (.fn 154 [.ptr b5 TsT [],.ptr b6 TsT [],.ptr b7 VP [],.ptr b8 .func []])),(N,.map 208 4 (W4 m))] from rfl]
  by_cases hip:i=ps.length
  ·have hip':(i:Int)=ps.length:=by omega
   have hd:kU (ps.drop i) (ns.drop k)=decide (k=ns.length):=by
    rw[List.drop_of_length_le (by omega),kU]
    by_cases hkn:k=ns.length
    ·subst hkn;simp
    ·have:ns.drop k≠[]:=fun e=>by have:=congrArg List.length e;simp at this;omega
     simp[hkn,this]
   have hkk:decide ((k:Int)=ns.length)=decide (k=ns.length):=decide_eq_decide.2 (by omega)
   simp (disch:=omega) [zz,hip',n1,n1',n2,n2',n3,n3',n4,n4',n5,n5',n6,n6',n7,n7',n8,n8',n9,n9',n10,n10']
   rw[hkk]
   simp (disch:=omega) [zz,hd,hme,Tryz.f154]
   exact⟨m,hm,rfl⟩
  have hip':¬(i:Int)=ps.length:=by omega
  have hil:i<ps.length:=by omega
  have hii:(i:Int)<ps.length:=by omega
  obtain⟨x,hx⟩:∃x,x=ps[i]:=⟨_,rfl⟩
  have hgx:(strs ps)[i]?=some (.s x):=by rw[xM ps i hil,hx]
  have hdp:ps.drop i=x::ps.drop (i+1):=by rw[List.drop_eq_getElem_cons hil,hx]
  have hxl:x.length<=2000000:=hpl x (by rw[hx];exact List.getElem_mem _)
  by_cases hf:wQ (YE (i,k)) (W4 m)=some (.b true)
  ·have hd:kU (ps.drop i) (ns.drop k)=false:=by
    rcases zae (i,k) m with h|⟨b,h1,h2⟩
    ·rw[h]at hf;cases hf
    ·rw[h1]at hf;cases hf
     exact hm _ h2 rfl
   simp only[YE]at hf
   simp (disch:=omega) [zz,hip',hf,n1,n1',n2,n2',n3,n3',n4,n4',n5,n5',n6,n6',n7,n7',n8,n8',n9,n9',n10,n10']
   simp (disch:=omega) [zz,hd,hme,Tryz.f154]
   exact⟨m,hm,rfl⟩
  have hf2:wQ (YE (i,k)) (W4 m)=none\/wQ (YE (i,k)) (W4 m)=some (.b false):=by
   rcases zae (i,k) m with h|⟨b,h1,h2⟩
   ·exact .inl h
   ·cases b with
    | true=>exact absurd h1 hf
    | false=>exact .inr h1
  clear hf
  by_cases hxs:x=[42,42]
  rotate_left
  ·-- a plain part
   by_cases hkn:k<ns.length
   rotate_left
   ·have hkn':¬(k:Int)<ns.length:=by omega
    have hd:kU (ps.drop i) (ns.drop k)=false:=by
     rw[hdp,List.drop_of_length_le (l:=ns) (by omega)]
     simp[kU,hxs]
    rcases hf2 with hf|hf
    all_goals
     simp only[YE]at hf
     simp (disch:=omega) [zz,hip',hii,hf,hgx,hxs,hkn',n1,n1',n2,n2',n3,n3',n4,n4',n5,n5',n6,n6',n7,n7',n8,n8',n9,n9',n10,n10']
     (repeat with_reducible refine om ?_)
     simp (disch:=omega) [zz,hd,hme,Tryz.f154]
     exact⟨m,hm,rfl⟩
   have hkn':(k:Int)<ns.length:=by omega
   obtain⟨n,hn⟩:∃n,n=ns[k]:=⟨_,rfl⟩
   have hgn:(strs ns)[k]?=some (.s n):=by rw[xM ns k hkn,hn]
   have hdn:ns.drop k=n::ns.drop (k+1):=by rw[List.drop_eq_getElem_cons hkn,hn]
   have hnl':n.length<=2000000:=hnl n (by rw[hn];exact List.getElem_mem _)
   have hd:kU (ps.drop i) (ns.drop k)=(Z4 x n&&kU (ps.drop (i+1)) (ns.drop (k+1))):=by
    rw[hdp,hdn,ziu hxs]
   have hone:=znY x n (by omega) (by omega)
   have hih:=ih (i+1) (k+1) m (by omega) (by omega) (by omega) hm
   obtain⟨o,ho⟩:∃o,o=Z4 x n:=⟨_,rfl⟩
   rw[<-ho]at hone hd
   have hfx:∃q,wQ (YE (i,k)) (W4 m)=q/\(q=none\/q=some (.b false)):=⟨_,rfl,hf2⟩
   rcases hf2 with hf|hf
   all_goals
    simp only[YE]at hf
    cases o with
    | false =>
     simp (disch:=omega) [zz,hip',hii,hf,hgx,hxs,hkn',hgn,n1,n1',n2,n2',n3,n3',n4,n4',n5,n5',n6,n6',n7,n7',n8,n8',n9,n9',n10,n10']
     try (repeat with_reducible refine om ?_)
     refine zcd (hone) ?_;(simp (maxSteps:=2000000) (disch:=first|omega|assumption) [zz,n1,n1',n2,n2',n3,n3',n4,n4',n5,n5',n6,n6',n7,n7',n8,n8',n9,n9',n10,n10'])
     try (repeat with_reducible refine om ?_)
     simp (disch:=omega) [zz,hd,hme,Tryz.f154]
     exact⟨m,hm,rfl⟩
    | true =>
     simp (disch:=omega) [zz,hip',hii,hf,hgx,hxs,hkn',hgn,n1,n1',n2,n2',n3,n3',n4,n4',n5,n5',n6,n6',n7,n7',n8,n8',n9,n9',n10,n10']
     try (repeat with_reducible refine om ?_)
     refine zcd (hone) ?_;(simp (maxSteps:=2000000) (disch:=first|omega|assumption) [zz,n1,n1',n2,n2',n3,n3',n4,n4',n5,n5',n6,n6',n7,n7',n8,n8',n9,n9',n10,n10'])
     try (repeat with_reducible refine om ?_)
     refine qD (R:=fun r H'=>r=.av .bool (.b (kU (ps.drop (i+1)) (ns.drop (k+1))))/\∃m',vA ps ns m'/\H'=yK b5 b6 b7 b8 N ps ns m') (yK b5 b6 b7 b8 N ps ns m) [] (by rw[List.append_nil];exact List.Perm.refl _) rfl (by simp[qE]) (by simp) ?_ ?_
     ·rw[uL]
      simpa[TV.er,AV.er,AV.ers]using hih
     rintro r H' ⟨rfl,m',hm',rfl⟩ _
     refine⟨yK b5 b6 b7 b8 N ps ns m',by rw[List.append_nil];exact HSub.refl _,?_⟩
     rw[show yK b5 b6 b7 b8 N ps ns m'=[(b5,.var TsT (.sl .no (strs ps))),(b6,.var TsT (.sl .no (strs ns))),(b7,.var VP (.map (some N))),(b8,.var .func (.fn 154 [.ptr b5 TsT [],.ptr b6 TsT [],.ptr b7 VP [],.ptr b8 .func []])),(N,.map 208 4 (W4 m'))] from rfl]
     simp (disch:=omega) [zz,hd,hme,Tryz.f154]
     exact⟨m',hm',rfl⟩
  subst hxs
  by_cases hil1:i+1=ps.length
  ·have hil':(ps.length:Int)-1=i:=by omega
   have hd:kU (ps.drop i) (ns.drop k)=decide (k<ns.length):=by
    rw[hdp,List.drop_of_length_le (l:=ps) (by omega)]
    by_cases hkn:k<ns.length
    ·rw[List.drop_eq_getElem_cons hkn];simp[kU,hkn]
    ·rw[List.drop_of_length_le (by omega)];simp[kU,hkn]
   rcases hf2 with hf|hf
   all_goals
    simp only[YE]at hf
    simp (disch:=omega) [zz,hip',hii,hil',hf,hgx,n1,n1',n2,n2',n3,n3',n4,n4',n5,n5',n6,n6',n7,n7',n8,n8',n9,n9',n10,n10']
    try (repeat with_reducible refine om ?_)
    simp (disch:=omega) [zz,hd,hme,Tryz.f154]
    exact⟨m,hm,rfl⟩
  have hil':¬(i:Int)=(ps.length:Int)-1:=by omega
  have hne:ps.drop (i+1)≠[]:=fun e=>by have:=congrArg List.length e;simp at this;omega
  have hih:=ih (i+1) k m (by omega) (by omega) hk hm
  have hdd:kU (ps.drop i) (ns.drop k)=VX (kU (ps.drop (i+1))) (ns.drop k):=by rw[hdp,cU hne]
  obtain⟨y,hy⟩:∃y,y=kU (ps.drop (i+1)) (ns.drop k):=⟨_,rfl⟩
  rw[<-hy]at hih
  rcases hf2 with hf|hf
  all_goals
   simp only[YE]at hf
   cases y with
   | true =>
    have hd:kU (ps.drop i) (ns.drop k)=true:=by
     rw[hdd]
     cases hns:ns.drop k with
     | nil=>rw[VX,<-hns,<-hy]
     | cons a b=>rw[VX,<-hns,<-hy];rfl
    simp (disch:=omega) [zz,hip',hii,hil',hf,hgx,n1,n1',n2,n2',n3,n3',n4,n4',n5,n5',n6,n6',n7,n7',n8,n8',n9,n9',n10,n10']
    try (repeat with_reducible refine om ?_)
    refine qD (R:=fun r H'=>r=.av .bool (.b true)/\∃m',vA ps ns m'/\H'=yK b5 b6 b7 b8 N ps ns m') (yK b5 b6 b7 b8 N ps ns m) [] (by rw[List.append_nil];exact List.Perm.refl _) rfl (by simp[qE]) (by simp) ?_ ?_
    ·rw[uL]
     simpa[TV.er,AV.er,AV.ers]using hih
    rintro r H' ⟨rfl,m',hm',rfl⟩ _
    refine⟨yK b5 b6 b7 b8 N ps ns m',by rw[List.append_nil];exact HSub.refl _,?_⟩
    obtain⟨m2,hp1,hp2⟩:=dA ps ns (i,k) false (fun e=>by cases e) m' hm'
    simp only[YE]at hp1
    rw[show yK b5 b6 b7 b8 N ps ns m'=[(b5,.var TsT (.sl .no (strs ps))),(b6,.var TsT (.sl .no (strs ns))),(b7,.var VP (.map (some N))),(b8,.var .func (.fn 154 [.ptr b5 TsT [],.ptr b6 TsT [],.ptr b7 VP [],.ptr b8 .func []])),(N,.map 208 4 (W4 m'))] from rfl]
    simp (disch:=omega) [zz,hp1,n1,n1',n2,n2',n3,n3',n4,n4',n5,n5',n6,n6',n7,n7',n8,n8',n9,n9',n10,n10']
    simp (disch:=omega) [zz,hd,hme,Tryz.f154]
    exact⟨m2,hp2,rfl⟩
   | false =>
    simp (disch:=omega) [zz,hip',hii,hil',hf,hgx,n1,n1',n2,n2',n3,n3',n4,n4',n5,n5',n6,n6',n7,n7',n8,n8',n9,n9',n10,n10']
    try (repeat with_reducible refine om ?_)
    refine qD (R:=fun r H'=>r=.av .bool (.b false)/\∃m',vA ps ns m'/\H'=yK b5 b6 b7 b8 N ps ns m') (yK b5 b6 b7 b8 N ps ns m) [] (by rw[List.append_nil];exact List.Perm.refl _) rfl (by simp[qE]) (by simp) ?_ ?_
    ·rw[uL]
     simpa[TV.er,AV.er,AV.ers]using hih
    rintro r H' ⟨rfl,m',hm',rfl⟩ _
    refine⟨yK b5 b6 b7 b8 N ps ns m',by rw[List.append_nil];exact HSub.refl _,?_⟩
    rw[show yK b5 b6 b7 b8 N ps ns m'=[(b5,.var TsT (.sl .no (strs ps))),(b6,.var TsT (.sl .no (strs ns))),(b7,.var VP (.map (some N))),(b8,.var .func (.fn 154 [.ptr b5 TsT [],.ptr b6 TsT [],.ptr b7 VP [],.ptr b8 .func []])),(N,.map 208 4 (W4 m'))] from rfl]
    by_cases hkn:k<ns.length
    rotate_left
    ·have hkn':¬(k:Int)<ns.length:=by omega
     have hd:kU (ps.drop i) (ns.drop k)=false:=by
      rw[hdd,List.drop_of_length_le (l:=ns) (by omega),VX]
      rw[List.drop_of_length_le (l:=ns) (by omega)]at hy
      exact hy.symm
     obtain⟨m2,hp1,hp2⟩:=dA ps ns (i,k) true (fun _=>hd) m' hm'
     simp only[YE]at hp1
     simp (disch:=omega) [zz,hkn',hp1,n1,n1',n2,n2',n3,n3',n4,n4',n5,n5',n6,n6',n7,n7',n8,n8',n9,n9',n10,n10']
     simp (disch:=omega) [zz,hd,hme,Tryz.f154]
     exact⟨m2,hp2,rfl⟩
    have hkn':(k:Int)<ns.length:=by omega
    have hd:kU (ps.drop i) (ns.drop k)=kU (ps.drop i) (ns.drop (k+1)):=by
     have e:kU (ps.drop i) (ns.drop (k+1))=VX (kU (ps.drop (i+1))) (ns.drop (k+1)):=by rw[hdp,cU hne]
     rw[hdd,e]
     rw[List.drop_eq_getElem_cons hkn]at hy |-
     rw[VX,<-hy,Bool.false_or]
    have hih2:=ih i (k+1) m' (by omega) hi (by omega) hm'
    rw[hd]
    obtain⟨y2,hy2⟩:∃y2,y2=kU (ps.drop i) (ns.drop (k+1)):=⟨_,rfl⟩
    rw[<-hy2]at hih2 hd
    simp (disch:=omega) [zz,hkn',n1,n1',n2,n2',n3,n3',n4,n4',n5,n5',n6,n6',n7,n7',n8,n8',n9,n9',n10,n10']
    try (repeat with_reducible refine om ?_)
    refine qD (R:=fun r H'=>r=.av .bool (.b y2)/\∃m',vA ps ns m'/\H'=yK b5 b6 b7 b8 N ps ns m') (yK b5 b6 b7 b8 N ps ns m') [] (by rw[List.append_nil];exact List.Perm.refl _) rfl (by simp[qE]) (by simp) ?_ ?_
    ·rw[uL]
     simpa[TV.er,AV.er,AV.ers]using hih2
    rintro r H' ⟨rfl,m3,hm3,rfl⟩ _
    refine⟨yK b5 b6 b7 b8 N ps ns m3,by rw[List.append_nil];exact HSub.refl _,?_⟩
    rw[show yK b5 b6 b7 b8 N ps ns m3=[(b5,.var TsT (.sl .no (strs ps))),(b6,.var TsT (.sl .no (strs ns))),(b7,.var VP (.map (some N))),(b8,.var .func (.fn 154 [.ptr b5 TsT [],.ptr b6 TsT [],.ptr b7 VP [],.ptr b8 .func []])),(N,.map 208 4 (W4 m3))] from rfl]
    obtain⟨m2,hp1,hp2⟩:=dA ps ns (i,k) (!y2) (fun e=>by rw[hd];simpa using e) m3 hm3
    simp only[YE]at hp1
    cases y2 with
    | false =>
     simp only[Bool.not_false]at hp1
     simp (disch:=omega) [zz,hp1,n1,n1',n2,n2',n3,n3',n4,n4',n5,n5',n6,n6',n7,n7',n8,n8',n9,n9',n10,n10']
     simp (disch:=omega) [zz,<-hy2,hme,Tryz.f154]
     exact⟨m2,hp2,rfl⟩
    | true =>
     simp only[Bool.not_true]at hp1
     simp (disch:=omega) [zz,hp1,n1,n1',n2,n2',n3,n3',n4,n4',n5,n5',n6,n6',n7,n7',n8,n8',n9,n9',n10,n10']
     simp (disch:=omega) [zz,<-hy2,hme,Tryz.f154]
     exact⟨m2,hp2,rfl⟩
end
end Go.Proofs.YtdkieabmeiojjaaGreatDoor
