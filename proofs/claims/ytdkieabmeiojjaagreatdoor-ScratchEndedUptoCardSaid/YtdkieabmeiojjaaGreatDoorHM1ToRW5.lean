/- Is a text a pattern? The reference. No condition. -/
import Derived.Test.YtdkieabmeiojjaaGreatDoorSB6ToHM0
set_option linter.unusedSimpArgs false
set_option linter.unusedVariables false
set_option linter.unusedSectionVars false
set_option maxHeartbeats 64000000
set_option maxRecDepth 100000
namespace Go.Proofs.YtdkieabmeiojjaaGreatDoor
open Go Go.Ab
open Classical
section
variable [Sel] [SelPow] [SelMax]
def zqV:Bool->List UInt8->Bool
 | _,[]=>true
 | b,c::r=>(YF c||zb6 c)&&(!(b&&decide (c=42))&&zqV (decide (c=42)) r)
theorem zrU:∀(s:List UInt8) (b:Bool),zqV b s=(uU s&&!(b&&KG s [42]))
 | [],b=>by cases b<;>rfl
 | c::r,b=>by
  have ih:=zrU r (decide (c=42))
  have h1:KG (c::r) [42]=decide (c=42):=by simp[KG]
  have h2:KG (c::r) [42,42]=(decide (c=42)&&KG r [42]):=by
   cases r<;>simp[KG]
  rw[zqV,uU,ih,h1,h2]
  cases YF c<;>cases zb6 c<;>cases b<;>cases decide (c=42)<;>cases uU r<;>cases KG r [42]<;>rfl
theorem zsZ {b:Bool} {s:List UInt8} {k:Nat} {c:UInt8} (h:s[k]?=some c):zqV b (s.drop k)=((YF c||zb6 c)&&(!(b&&decide (c=42))&&zqV (decide (c=42)) (s.drop (k+1)))):=by
 rw[ZE h,zqV]
def zrh (s:List UInt8):Nat->Bool
 | 0=>false
 | k+1=>decide (s[k]?=some 42)
theorem ztj (c:UInt8):XC [97,c]=YF c:=by
 have h1:yH 97=true:=by decide
 simp[XC,h1,YF]
theorem zsD (s:List UInt8) (hs:s.length<=1000000000):PC Tryz.prog 96 [.av .str (.s s)] (.av .bool (.b (XI s))):=by
 refine zow Tryz.func96 cf0 fun imm0 w0=>?_
 by_cases h0:s=[42,42]
 ·have:XI s=true:=by simp[XI,h0]
  simp (disch:=omega) [zz,h0,Tryz.f96]
  rw[<-h0];exact this
 have hpg:XI s=(uU s&&decide (1<=s.length/\s.length<=64/\s≠[46]/\s≠[46,46])):=by simp[XI,h0]
 by_cases h1:s=[]
 ·have hr:XI s=false:=by rw[hpg,h1];simp
  simp (disch:=omega) [zz,h0,h1,Tryz.f96]
  rw[<-h1];exact hr
 have h1':¬(s.length:Int)=0:=fun h=>h1 (List.eq_nil_of_length_eq_zero (by omega))
 have h1l:1<=s.length:=by omega
 by_cases h2:s.length<=64
 rotate_left
 ·have hr:XI s=false:=by rw[hpg];simp[h2]
  have h2':(64:Int)<s.length:=by omega
  simp (disch:=omega) [zz,h0,h1,h1',h2',hr,Tryz.f96]
 have h2':¬(64:Int)<s.length:=by omega
 by_cases h3:s=[46]
 ·have hr:XI s=false:=by rw[hpg];simp[h3]
  simp (disch:=omega) [zz,h0,h1,h1',h2',h3,Tryz.f96]
  rw[<-h3];exact hr
 by_cases h4:s=[46,46]
 ·have hr:XI s=false:=by rw[hpg];simp[h4]
  simp (disch:=omega) [zz,h0,h1,h1',h2',h3,h4,Tryz.f96]
  rw[<-h4];exact hr
 have hpw:XI s=zqV false s:=by rw[hpg,zrU];simp[h1l,h2,h3,h4]
 simp (disch:=omega) [zz,h0,h1,h1',h2',h3,h4]
 refine AT.loop' (α:=Nat) (fun k=>St.of [(0,.av .str (.s s)),(3,.av (.int .i64) (.i .i64 k))] [] (fun _=>0) []) (fun k=>k<=s.length/\zqV false s=zqV (zrh s k) (s.drop k)) (fun k=>s.length-k) 0 ?_ ?_ ?_
 ·apply Le.of<;>simp[le9,z6]<;>try omega
 ·exact⟨by omega,by simp[zrh]⟩
 rintro k ⟨hk,hg⟩ KL hN hE
 refine zrd cf0 ?_
 by_cases hlt:k<s.length
 rotate_left
 ·have hlt':¬(k:Int)<s.length:=by omega
  rw[List.drop_of_length_le (by omega)]at hg
  have hr:XI s=true:=by rw[hpw,hg];rfl
  simp (disch:=omega) [zz,hlt']
  refine hE _ _ (by simp) ?_
  simp (disch:=omega) [zz,Tryz.f96,hr]
 have hlt':(k:Int)<s.length:=by omega
 obtain⟨c,hc⟩:∃c,c=s[k]:=⟨_,rfl⟩
 have hsc:s[k]=c:=hc.symm
 have hgc:s[k]?=some c:=by rw[List.getElem?_eq_getElem hlt,hsc]
 have hat:=zsZ (b:=zrh s k) hgc
 have hpt:=ztj c
 have hn1:zrh s (k+1)=decide (c=42):=by simp[zrh,hgc]
 have bad:YF c=false->zb6 c=false->XI s=false:=by
  intro h1 h2
  rw[hpw,hg,hat,h1,h2];rfl
 have pre:zrh s k=true->c=42->XI s=false:=by
  intro h1 h2
  rw[hpw,hg,hat,h1,decide_eq_true h2];simp
 have on:(YF c||zb6 c)=true->(zrh s k=true->c=42->False)->zqV false s=zqV (zrh s (k+1)) (s.drop (k+1)):=by
  intro h1 h2
  rw[hg,hat,h1,hn1]
  cases h3:zrh s k
  ·simp
  ·have:¬c=42:=fun h=>h2 h3 h
   simp[this]
 by_cases h42:c=42
 ·subst h42
  have hgd:(YF 42||zb6 42)=true:=by decide
  cases k with
  | zero =>
   have hz:0<s.length:=by omega
   simp (disch:=omega) [zz,hlt',hz,hsc]
   try (repeat with_reducible refine om ?_)
   refine hN _ 1 ?_ ⟨by omega,on hgd (by simp[zrh])⟩ (by omega)
   apply Le.of<;>simp[le9,z6]<;>try omega
  | succ j =>
   have hj:j<s.length:=by omega
   have hj':((j:Int)+1)-1=j:=by omega
   have hj0:(0:Int)<(j:Int)+1:=by omega
   have hj1:(j:Int)+1<s.length:=by omega
   have hj2:(0:Int)<=(j:Int)+1:=by omega
   obtain⟨d,hd⟩:∃d,d=s[j]:=⟨_,rfl⟩
   have hsd:s[j]=d:=hd.symm
   have hgd':s[j]?=some d:=by rw[List.getElem?_eq_getElem hj,hsd]
   have hpj:zrh s (j+1)=decide (d=42):=by simp[zrh,hgd']
   by_cases hd42:d=42
   ·subst hd42
    have hr:=pre (by rw[hpj];rfl) rfl
    simp (disch:=omega) [zz,hlt',hsc,hsd,hj',hj0,hj1,hj2,hj]
    try (repeat with_reducible refine om ?_)
    refine hE _ _ (by simp) ?_
    simp (disch:=omega) [zz,Tryz.f96,hr]
   ·have hd42':¬(d.toNat:Int)=42:=by have:=za9 (n:=42) (by omega) hd42;simpa using this
    simp (disch:=omega) [zz,hlt',hsc,hsd,hj',hj0,hj1,hj2,hj,hd42,hd42']
    try (repeat with_reducible refine om ?_)
    refine hN _ (j+1+1) ?_ ⟨by omega,on hgd (by rw[hpj];simp[hd42])⟩ (by omega)
    apply Le.of<;>simp[le9,z6]<;>try omega
 have h42':¬(c.toNat:Int)=42:=by have:=za9 (n:=42) (by omega) h42;simpa using this
 have go:(YF c||zb6 c)=true->zqV false s=zqV (zrh s (k+1)) (s.drop (k+1)):=fun h=>on h fun _ h2=>h42 h2
 by_cases h63:c=63
 ·subst h63
  have hgd:(YF 63||zb6 63)=true:=by decide
  rcases Nat.eq_zero_or_pos k with rfl|hk0
  ·have hz:0<s.length:=by omega
   simp (disch:=omega) [zz,hlt',hz,hsc]
   try (repeat with_reducible refine om ?_)
   refine hN _ 1 ?_ ⟨by omega,go hgd⟩ (by omega)
   apply Le.of<;>simp[le9,z6]<;>try omega
  have hkn:k≠0:=by omega
  simp (disch:=omega) [zz,hlt',hsc,hk0,hkn]
  try (repeat with_reducible refine om ?_)
  refine hN _ (k+1) ?_ ⟨by omega,go hgd⟩ (by omega)
  apply Le.of<;>simp[le9,z6]<;>try omega
 have h63':¬(c.toNat:Int)=63:=by have:=za9 (n:=63) (by omega) h63;simpa using this
 have hsl:(s.take (k+1)).drop k=[c]:=by
  rw[List.drop_take,show k+1-k=1 by omega,ZE hgc];rfl
 simp (disch:=omega) [zz,hlt',hsc,h42,h42',h63,h63',hsl]
 try (repeat with_reducible refine om ?_)
 refine qO (zs4 [97,c] (by simp)) rfl rfl (by simp) (by simp[qR,coC,TV.er,AV.er,hsl]) ?_
 rw[hpt]
 cases hp:YF c
 ·have hr:=bad hp (by simp[zb6,h63,h42])
  simp (disch:=omega) [zz,hp]
  try (repeat with_reducible refine om ?_)
  refine hE _ _ (by simp) ?_
  simp (disch:=omega) [zz,Tryz.f96,hr]
 ·rcases Nat.eq_zero_or_pos k with rfl|hk0
  ·have hz:0<s.length:=by omega
   simp (disch:=omega) [zz,hp,hlt',hz,hsc,h42,h42']
   try (repeat with_reducible refine om ?_)
   refine hN _ 1 ?_ ⟨by omega,go (by rw[hp];rfl)⟩ (by omega)
   apply Le.of<;>simp[le9,z6]<;>try omega
  have hkn:k≠0:=by omega
  simp (disch:=omega) [zz,hp,hlt',hsc,h42,h42',hk0,hkn]
  try (repeat with_reducible refine om ?_)
  refine hN _ (k+1) ?_ ⟨by omega,go (by rw[hp];rfl)⟩ (by omega)
  apply Le.of<;>simp[le9,z6]<;>try omega
theorem zsM (p:List UInt8) (hp:p.length<=2000000):PC Tryz.prog 63 [.av .str (.s p)] (.av .bool (.b (CK p))):=by
 refine zow Tryz.func63 cf0 fun imm0 w0=>?_
 have hle:=U0 47 p
 have hlen:∀x∈qK 47 p,x.length<=p.length:=fun x hx=>QN 47 p x hx
 obtain⟨ps,hps⟩:∃ps,ps=qK 47 p:=⟨_,rfl⟩
 simp (disch:=omega) [zz]
 refine zcv (zre p (by omega)) ?_
 rw[<-hps]at hle hlen |-
 have hpv:CK p=(decide (ps.length<=16)&&ps.all XI):=by rw[hps];rfl
 simp (disch:=omega) [zz,jS]
 refine AT.loop' (α:=Nat) (fun k=>St.of [(3,.av (.slice 9) (.sl .no (strs ps))),(8,.av (.slice 9) (.sl .no (strs ps))),(9,.av (.int .i64) (.i .i64 ps.length)),(10,.av (.int .i64) (.i .i64 k))] [] (fun _=>0) []) (fun k=>k<=ps.length/\(ps.take k).all XI=true) (fun k=>ps.length-k) 0 ?_ ?_ ?_
 ·apply Le.of<;>simp[le9,z6]<;>try omega
 ·simp
 rintro k ⟨hk,hall⟩ KL hN hE
 refine zrd cf0 ?_
 by_cases hlt:k<ps.length
 ·have hlt':(k:Int)<ps.length:=by omega
  obtain⟨x,hx⟩:∃x,x=ps[k]:=⟨_,rfl⟩
  have hgx:(strs ps)[k]?=some (.s x):=by rw[xM ps k hlt,hx]
  have hxl:=hlen x (by rw[hx];exact List.getElem_mem _)
  simp (disch:=omega) [zz,hlt',jS,hgx]
  refine zcv (zsD x (by omega)) ?_
  cases hb:XI x
  ·have hr:CK p=false:=by
    have:ps.all XI=false:=List.all_eq_false.2 ⟨x,by rw[hx];exact List.getElem_mem _,by simp[hb]⟩
    rw[hpv,this];simp
   simp (disch:=omega) [zz]
   refine hE _ _ (by simp) ?_
   simp (disch:=omega) [zz,Tryz.f63,hr]
  ·simp (disch:=omega) [zz]
   refine hN _ (k+1) ?_ ⟨by omega,by rw[List.take_succ_eq_append_getElem hlt,List.all_append,hall,<-hx];simp[hb]⟩ (by omega)
   apply Le.of<;>simp[le9,z6]<;>try omega
 ·have hlt':¬(k:Int)<ps.length:=by omega
  rw[List.take_of_length_le (by omega)]at hall
  have hd:decide ((ps.length:Int)<=16)=decide (ps.length<=16):=decide_eq_decide.2 (by omega)
  have hr:CK p=decide (ps.length<=16):=by rw[hpv,hall];simp
  simp (disch:=omega) [zz,hlt']
  refine hE _ _ (by simp) ?_
  simp (disch:=omega) [zz,Tryz.f63,hr,jS,hd]
def zqN:List UInt8->List (List UInt8)
 | []=>[]
 | b::l=>if b=10 then []::zqN l else match zqN l with
  | []=>[[b]]
  | x::r=>(b::x)::r
theorem zrM:∀l:List UInt8,zqN (l++[10])=qK 10 l
 | []=>by simp[zqN,qK]
 | b::l=>by
  have ih:=zrM l
  rw[List.cons_append,zqN,qK,ih]
  cases qK 10 l<;>rfl
theorem zrK:∀(l:List UInt8) (b:UInt8),b≠10->zqN (l++[b])=qK 10 (l++[b])
 | [],b,h=>by simp[zqN,qK,h]
 | c::l,b,h=>by
  have ih:=zrK l b h
  rw[List.cons_append,zqN,qK,ih]
  cases qK 10 (l++[b])<;>rfl
theorem zrZ (l:List UInt8):qU l=zqN l:=by
 unfold qU
 rcases List.eq_nil_or_concat l with rfl|⟨l',b,rfl⟩
 ·simp[zqN]
 rw[List.concat_eq_append]
 rw[if_neg (by simp)]
 by_cases hb:b=10
 ·subst hb
  rw[zrM]
  have hs:KQ (l'++[10]) [10]=l':=by
   unfold KQ
   have:GL (l'++[10]) [10]=true:=by simp[GL]
   rw[if_pos this]
   simp
  rw[hs]
 ·rw[zrK l' b hb]
  have hs:KQ (l'++[b]) [10]=l'++[b]:=by
   unfold KQ
   have:GL (l'++[b]) [10]=false:=by simp[GL,hb]
   rw[if_neg (by rw[this];decide)]
  rw[hs]
theorem zrt:∀(a b:List UInt8),(∀x∈a,x≠10)->zqN (a++10::b)=a::zqN b
 | [],b,_=>by simp[zqN]
 | c::a,b,h=>by
  have ih:=zrt a b fun x hx=>h x (by simp[hx])
  have hc:c≠10:=h c (by simp)
  rw[List.cons_append,zqN,if_neg hc,ih]
theorem zry:∀(a:List UInt8),(∀x∈a,x≠10)->zqN a=if a=[] then [] else [a]
 | [],_=>rfl
 | c::a,h=>by
  have ih:=zry a fun x hx=>h x (by simp[hx])
  have hc:c≠10:=h c (by simp)
  rw[zqN,if_neg hc,ih]
  cases a<;>simp
abbrev ztA:Cfg:=⟨fun _=>false,fun _=>false⟩
def tkA (d:Nat):Nat->Ab.Tok
 | 0=>.full
 | k+1=>.own d (k+1)
structure zrm (l:List UInt8) (i f:Nat) (L:List (List UInt8)):Prop where
 fi:f<=i
 il:i<=l.length
 few:L.length<=i
 all:zqN l=L++zqN (l.drop f)
 no:∀x∈(l.take i).drop f,x≠10
theorem zrm.start (l:List UInt8):zrm l 0 0 []:=⟨by omega,by omega,by simp,by simp,by simp⟩
theorem zth {l:List UInt8} {i:Nat} (h:i<l.length):l.take (i+1)=l.take i++[l[i]]:=List.take_succ_eq_append_getElem h
theorem zrm.next {l:List UInt8} {i f:Nat} {L:List (List UInt8)} (h:zrm l i f L) (hi:i<l.length) (hc:l[i]≠10):zrm l (i+1) f L:=by
 have h1:=h.fi
 have h2:=h.few
 refine⟨by omega,by omega,by omega,h.all,fun x hx=>?_⟩
 rw[zth hi,List.drop_append_of_le_length (by rw[List.length_take];omega)]at hx
 rcases List.mem_append.1 hx with hx|hx
 ·exact h.no x hx
 ·rw[List.mem_singleton.1 hx];exact hc
theorem zrm.line {l:List UInt8} {i f:Nat} {L:List (List UInt8)} (h:zrm l i f L) (hi:i<l.length) (hc:l[i]=10):zrm l (i+1) (i+1) (L++[(l.take i).drop f]):=by
 have h1:=h.fi
 have h2:=h.few
 refine⟨by omega,by omega,by rw[List.length_append,List.length_singleton];omega,?_,fun x hx=>by rw[List.drop_eq_nil_of_le (by rw[List.length_take];omega)]at hx;cases hx⟩
 have e:l.drop f=(l.take i).drop f++10::l.drop (i+1):=by
  conv=>lhs;rw[<-List.take_append_drop i l]
  rw[List.drop_append_of_le_length (by rw[List.length_take];omega),List.drop_eq_getElem_cons hi,hc]
 rw[h.all,e,zrt _ _ h.no]
 simp
theorem zrm.done {l:List UInt8} {f:Nat} {L:List (List UInt8)} (h:zrm l l.length f L):qU l=L++if f<l.length then [l.drop f] else []:=by
 rw[zrZ,h.all]
 have hn:∀x∈l.drop f,x≠10:=fun x hx=>h.no x (by rw[List.take_length];exact hx)
 rw[zry _ hn]
 by_cases hf:f<l.length
 ·rw[if_pos hf,if_neg (by intro e;have:=congrArg List.length e;simp at this;omega)]
 ·rw[if_neg hf,if_pos (List.drop_eq_nil_of_le (by omega))]
theorem zsv (l:Txt) (hl:l.length<=1000000000):PC Tryz.prog 92 [.av .str (.s l)] (.av (.slice 9) (.sl .no (strs (qU l)))):=by
 refine zow Tryz.func92 ztA fun imm0 w0=>?_
 simp (disch:=omega) [zz]
 refine AT.loop' (α:=Nat × Nat × List (List UInt8)) (fun x=>St.of [(0,.av .str (.s l)),(3,.av (.slice 9) (.sl (tkA 22 x.2.2.length) (strs x.2.2))),(4,.av (.int .i64) (.i .i64 x.2.1)),(5,.av (.int .i64) (.i .i64 x.1))] [] (fun j=>if j=22 then x.2.2.length else 0) [])
  (fun x=>zrm l x.1 x.2.1 x.2.2) (fun x=>l.length-x.1) (0,0,[]) ?_ ?_ ?_
 ·apply Le.of<;>simp[zR,qI,tkA,strs]<;>try omega
 ·exact zrm.start l
 rintro⟨i,f,L⟩ hinv KL hN hE
 simp only at hinv hN
 refine zrd ztA ?_
 have hfi:=hinv.fi
 have hil:=hinv.il
 have hfw:=hinv.few
 by_cases hlt:i<l.length
 ·have hlt':(i:Int)<l.length:=by omega
  have hg:l[i]?=some l[i]:=List.getElem?_eq_getElem hlt
  by_cases hc:l[i]=10
  ·have hn:=hinv.line hlt hc
   have hcI:((l[i].toNat:Nat):Int)=10:=by rw[hc];rfl
   obtain⟨q,hq⟩:∃q,q=(l.take i).drop f:=⟨_,rfl⟩
   rw[<-hq]at hn
   cases L with
   | nil =>
    simp (disch:=omega) [zz,hlt,hlt',hg,hcI,<-hq,tkA]
    (repeat with_reducible refine om ?_)
    simp (disch:=omega) [zz,yT]
    (repeat with_reducible refine om ?_)
    refine hN _ (i+1,i+1,[q]) ?_ hn (by simp only;omega)
    apply Le.of<;>simp[zR,qI,tkA,strs]<;>try omega
   | cons y L =>
    simp only[List.length_cons]at hfw
    simp (disch:=omega) [zz,hlt,hlt',hg,hcI,<-hq,tkA,strs]
    (repeat with_reducible refine om ?_)
    simp (disch:=omega) [zz,yT]
    (repeat with_reducible refine om ?_)
    refine hN _ (i+1,i+1,(y::L)++[q]) ?_ hn (by simp only;omega)
    apply Le.of<;>simp[zR,qI,tkA,strs]<;>try omega
    all_goals (intro j;by_cases hj:j=22<;>simp[hj])
  ·have hn:=hinv.next hlt hc
   have hcI:¬((l[i].toNat:Int)=10):=fun h=>hc (UInt8.toNat_inj.1 (by
                                          have:l[i].toNat=10:=by omega
                                          simpa using this))
   simp (disch:=omega) [zz,hlt,hlt',hg,hcI]
   refine hN _ (i+1,f,L) ?_ hn (by simp only;omega)
   apply Le.of<;>simp[zR,qI,z6]<;>try omega
 ·have hin:i=l.length:=by omega
  subst hin
  have hlt':¬(l.length:Int)<l.length:=by omega
  have hd:=hinv.done
  simp (disch:=omega) [zz,hlt']
  refine hE _ _ (by simp) ?_
  clear hN hE
  by_cases hf:f<l.length
  ·have hf':(f:Int)<l.length:=by omega
   rw[if_pos hf]at hd
   cases L with
   | nil =>
    simp (disch:=omega) [zz,hf',tkA]
    (repeat with_reducible refine om ?_)
    simp (disch:=omega) [zz,yT]
    (repeat with_reducible refine om ?_)
    simp (disch:=omega) [zz,hd,strs,AV.ers_eq,AV.er,Function.comp_def,Tryz.f92]
   | cons y L =>
    simp only[List.length_cons]at hfw
    simp (disch:=omega) [zz,hf',tkA,strs]
    (repeat with_reducible refine om ?_)
    simp (disch:=omega) [zz,yT]
    (repeat with_reducible refine om ?_)
    simp (disch:=omega) [zz,hd,strs,AV.ers_eq,AV.er,Function.comp_def,Tryz.f92]
  ·have hf':¬(f:Int)<l.length:=by omega
   rw[if_neg hf,List.append_nil]at hd
   simp (disch:=omega) [zz,hf',hd,Tryz.f92]
structure WI (l:List UInt8) (i:Nat) (inw:Bool) (ps:List (List UInt8)):Prop where
 il:i<=l.length
 few:ps.length<=i
 all:zqM inw ps (l.drop i)=zG l
 ne:inw=true->ps≠[]/\ps.getLastD []≠[]
 wl:∀x∈ps,x.length<=i
theorem WI.start (l:List UInt8):WI l 0 false []:=⟨by omega,by simp,by simp[zqM,zG],by simp,by simp⟩
theorem WI.sep {l:List UInt8} {i:Nat} {inw:Bool} {ps:List (List UInt8)} (h:WI l i inw ps) (hi:i<l.length) (hc:gN l[i]=true):WI l (i+1) false ps:=by
 have h2:=h.few
 have ha:=h.all
 rw[List.drop_eq_getElem_cons hi]at ha
 refine⟨by omega,by omega,?_,(fun e=>by cases e),fun x hx=>by have:=h.wl x hx;omega⟩
 cases inw with
 | true =>
  obtain⟨h3,h4⟩:=h.ne rfl
  rw[zrx h3 h4 hc]at ha
  exact ha
 | false =>
  rw[zro hc]at ha
  exact ha
theorem WI.more {l:List UInt8} {i:Nat} {q:List (List UInt8)} {x:List UInt8} (h:WI l i true (q++[x])) (hi:i<l.length) (hc:gN l[i]=false):WI l (i+1) true (q++[x++[l[i]]]):=by
 have h2:=h.few
 have ha:=h.all
 rw[List.drop_eq_getElem_cons hi,zsj (by simp) hc]at ha
 refine⟨by omega,by simp at h2 |-;omega,?_,fun _=>by simp,fun y hy=>?_⟩
 rotate_left
 ·rcases List.mem_append.1 hy with hy|hy
  ·have:=h.wl y (by simp[hy]);omega
  ·have:=h.wl x (by simp)
   rw[List.mem_singleton.1 hy];simp;omega
 rw[<-ha]
 congr 1
 simp
theorem WI.new {l:List UInt8} {i:Nat} {ps:List (List UInt8)} (h:WI l i false ps) (hi:i<l.length) (hc:gN l[i]=false):WI l (i+1) true (ps++[[l[i]]]):=by
 have h2:=h.few
 have ha:=h.all
 rw[List.drop_eq_getElem_cons hi,zs8 hc]at ha
 refine⟨by omega,by simp;omega,ha,fun _=>by simp,fun y hy=>?_⟩
 rcases List.mem_append.1 hy with hy|hy
 ·have:=h.wl y hy;omega
 ·rw[List.mem_singleton.1 hy];simp
theorem WI.done {l:List UInt8} {inw:Bool} {ps:List (List UInt8)} (h:WI l l.length inw ps):zG l=ps:=by
 have ha:=h.all
 rw[List.drop_length,zrW inw ps h.ne]at ha
 exact ha.symm
theorem u8i (c d:UInt8):((c.toNat:Nat):Int)=((d.toNat:Nat):Int)<->c=d:=⟨fun h=>UInt8.toNat_inj.1 (by omega),fun h=>by rw[h]⟩
def zsX (ps:List (List UInt8)) (ta:AV) (TA:q8):Prop:=(ps=[]/\ta=.nsl/\TA=[])\/∃T cap rs,ta=.msl T 9 0 ps.length cap/\ps.length+rs.length=cap/\TA=[(T,.var (.arr cap 9) (.agg (strs (ps++rs))))]
theorem zsX.er {ps:List (List UInt8)} {ta:AV} {TA:q8} (h:zsX ps ta TA):ta.er=ta/\TA.er=TA:=by
 rcases h with⟨_,rfl,rfl⟩|⟨T,cap,rs,rfl,_,rfl⟩
 ·exact⟨rfl,rfl⟩
 ·refine⟨rfl,?_⟩
  simp[q8.er_cons,q8.er_nil,HObj.er_var,AV.erk,strs,AV.erks_eq,Function.comp_def]
theorem zty {l:List UInt8} {i:Nat} (h:i<l.length):(l.take (i+1)).drop i=[l[i]]:=by
 rw[zth h,List.drop_append_of_le_length (by rw[List.length_take];omega),List.drop_eq_nil_of_le (by rw[List.length_take];omega)]
 rfl
theorem atS (ps:List (List UInt8)) (y:AV) (R:List AV):(strs ps++y::R)[ps.length]?=some y:=by
 rw[List.getElem?_append_right (by simp[strs])]
 simp[strs]
theorem zts (ps:List (List UInt8)) (y z:AV) (R:List AV):(strs ps++y::R).set ps.length z=strs ps++z::R:=by
 rw[List.set_append_right _ _ (by simp[strs])]
 simp[strs]
theorem zsm (x:List UInt8) (l:List (List UInt8)):strs (x::l)=AV.s x::strs l:=rfl
theorem zsK (n:Nat):strs (List.replicate n [])=List.replicate n (AV.s []):=by simp[strs]
abbrev ztt:Cfg:=⟨fun _=>false,fun n=>n==43⟩
theorem zsf (l:Txt) (hl:l.length<=1000000):q7 Tryz.prog 93 [.av .str (.s l)] [] fun r H'=>∃ta TA,r=.av (.slice 9) ta/\zsX (zG l) ta TA/\Ab.HSub TA H':=by
 refine zov Tryz.func93 ztt fun imm0 w0=>?_
 simp (disch:=omega) [zz]
 refine AT.nsl 3 9 (by simp ) ?_
 refine AT.loop' (α:=Nat × Bool × List (List UInt8) × AV × q8) (fun x=>St.of [(0,.av .str (.s l)),(3,.av (.slice 9) x.2.2.2.1),(4,.av .bool (.b x.2.1)),(5,.av (.int .i64) (.i .i64 x.1))] [] (fun _=>0) x.2.2.2.2)
  (fun x=>WI l x.1 x.2.1 x.2.2.1/\zsX x.2.2.1 x.2.2.2.1 x.2.2.2.2) (fun x=>l.length-x.1) (0,false,[],.nsl,[]) ?_ ?_ ?_
 ·apply Le.of<;>simp[zR,qI,z6]<;>try omega
 ·exact⟨WI.start l,.inl ⟨rfl,rfl,rfl⟩⟩
 rintro⟨i,inw,ps,ta,TA⟩ ⟨hinv,hrow⟩ KL hN hE
 simp only at hinv hrow hN
 have hil:=hinv.il
 have hfw:=hinv.few
 refine zrd ztt ?_
 by_cases hlt:i<l.length
 ·have hlt':(i:Int)<l.length:=by omega
  have hg:l[i]?=some l[i]:=List.getElem?_eq_getElem hlt
  have h32:((l[i].toNat:Nat):Int)=32<->l[i]=32:=u8i l[i] 32
  have h9:((l[i].toNat:Nat):Int)=9<->l[i]=9:=u8i l[i] 9
  by_cases hs:gN l[i]=true
  ·have hn:=hinv.sep hlt hs
   by_cases e32:l[i]=32
   ·have e32':=h32.2 e32
    simp (disch:=omega) [zz,hlt,hlt',hg,e32']
    refine hN _ (i+1,false,ps,ta,TA) ?_ ⟨hn,hrow⟩ (by simp only;omega)
    apply Le.of<;>simp[zR,qI,z6]<;>try omega
   ·have e32':¬((l[i].toNat:Nat):Int)=32:=fun h=>e32 (h32.1 h)
    have e9':=h9.2 (by simpa[gN,e32]using hs)
    simp (disch:=omega) [zz,hlt,hlt',hg,e32',e9']
    refine hN _ (i+1,false,ps,ta,TA) ?_ ⟨hn,hrow⟩ (by simp only;omega)
    apply Le.of<;>simp[zR,qI,z6]<;>try omega
  have hs':gN l[i]=false:=by simpa using hs
  have e32':¬((l[i].toNat:Nat):Int)=32:=fun h=>by simp[gN,h32.1 h]at hs'
  have e9':¬((l[i].toNat:Nat):Int)=9:=fun h=>by simp[gN,h9.1 h]at hs'
  cases inw with
  | true =>
   obtain⟨hne,hla⟩:=hinv.ne rfl
   rcases hrow with⟨h1,_⟩|⟨T,cap,rs,rfl,hcap,rfl⟩
   ·exact absurd h1 hne
   obtain⟨q,x,rfl⟩:∃q x,ps=q++[x]:=⟨_,_,zr1 hne⟩
   have hn:=hinv.more hlt hs'
   have hcut:=zty hlt
   simp only[List.length_append,List.length_singleton]at hfw hcap
   have hwl:=hinv.wl x (by simp)
   have hps:strs (q++[x]++rs)=strs q++AV.s x::strs rs:=by rw[xC,xC];simp[strs]
   have hat:=atS q (.s x) (strs rs)
   have hst:=fun z=>zts q (.s x) z (strs rs)
   rw[hps]
   obtain⟨c,hcc⟩:∃c,c=l[i]:=⟨_,rfl⟩
   rw[<-hcc]at hcut hn
   simp (disch:=omega) [zz,hlt,hlt',hg,e32',e9',List.length_append,hat,hst,hcut]
   (repeat with_reducible refine om ?_)
   refine hN _ (i+1,true,q++[x++[c]],.msl T 9 0 (q.length+1) cap,[(T,.var (.arr cap 9) (.agg (strs (q++[x++[c]]++rs))))]) ?_ ⟨hn,.inr ⟨T,cap,rs,by simp,by simp;omega,rfl⟩⟩ (by simp only;omega)
   apply Le.of<;>simp[zR,qI,xC,zsm,strs]<;>try omega
  | false =>
   have hn:=hinv.new hlt hs'
   have hcut:=zty hlt
   rcases hrow with⟨rfl,rfl,rfl⟩|⟨T,cap,rs,rfl,hcap,rfl⟩
   ·simp (disch:=omega) [zz,hlt,hlt',hg,e32',e9',hcut]
    (repeat with_reducible refine om ?_)
    intro b cap hcap
    (repeat with_reducible refine om ?_)
    refine hN _ (i+1,true,[[l[i]]],.msl b 9 0 1 cap,[(b,.var (.arr cap 9) (.agg (strs ([[l[i]]]++List.replicate (cap-1) []))))]) ?_ ⟨hn,.inr ⟨b,cap,List.replicate (cap-1) [],by simp,by simp;omega,rfl⟩⟩ (by simp only;omega)
    apply Le.of<;>simp[zR,qI,xC,zsm,zsK,strs]<;>try omega
   ·have e1:List.take ps.length (strs (ps++rs))=strs ps:=by rw[xC,List.take_left' (by simp[strs])]
    have e2:List.drop (ps.length+1) (strs (ps++rs))=strs (rs.drop 1):=by
     rw[xC,List.drop_append]
     simp[strs]
    have hat:=fun R=>atS ps (.s []) R
    have hst:=fun z R=>zts ps (.s []) z R
    simp (disch:=omega) [zz,hlt,hlt',hg,e32',e9',e1,e2,hcut,hat,hst]
    (repeat with_reducible refine om ?_)
    refine⟨fun hc=>?_,fun hc b2 cap2 hb2 hc2=>?_⟩
    ·(repeat with_reducible refine om ?_)
     refine hN _ (i+1,true,ps++[[l[i]]],.msl T 9 0 (ps.length+1) cap,[(T,.var (.arr cap 9) (.agg (strs (ps++[[l[i]]]++rs.drop 1))))]) ?_ ⟨hn,.inr ⟨T,cap,rs.drop 1,by simp,by simp;omega,rfl⟩⟩ (by simp only;omega)
     apply Le.of<;>simp[zR,qI,xC,zsm,zsK,strs]<;>try omega
    ·(repeat with_reducible refine om ?_)
     refine hN _ (i+1,true,ps++[[l[i]]],.msl b2 9 0 (ps.length+1) cap2,[(b2,.var (.arr cap2 9) (.agg (strs (ps++[[l[i]]]++List.replicate (cap2-(ps.length+1)) []))))]) ?_ ⟨hn,.inr ⟨b2,cap2,List.replicate (cap2-(ps.length+1)) [],by simp,by simp;omega,rfl⟩⟩ (by simp only;omega)
     apply Le.of<;>simp[zR,qI,xC,zsm,zsK,strs]<;>try omega
 ·have hin:i=l.length:=by omega
  subst hin
  have hlt':¬(l.length:Int)<l.length:=by omega
  have hd:=hinv.done
  simp (disch:=omega) [zz,hlt']
  refine hE _ _ (by simp) ?_
  obtain⟨t1,t2⟩:=hrow.er
  simp (disch:=omega) [zz,t1,t2,Tryz.f93]
  rw[hd]
  exact⟨TA,hrow,HSub.refl _⟩
theorem zsE (l:Txt) (hl:l.length<=1000000):PC Tryz.prog 93 [.av .str (.s l)] (.av (.slice 9) (.sl .no (strs (zG l)))):=by
 refine q7.nilR (R:=fun r H'=>(r=.av (.slice 9) (.sl .no (strs (zG l)))/\H'=[])\/(zG l=[]/\r=.av (.slice 9) .nsl/\H'=[])) ?_ ?_
 ·refine q7.freeze (R:=fun r H'=>∃ta TA,r=.av (.slice 9) ta/\zsX (zG l) ta TA/\H'=TA) laid ?_ ?_
  ·exact q7.sub (zsf l hl) fun r H' ⟨ta,TA,h1,h2,h3⟩ _=>⟨TA,h3,ta,TA,h1,h2,rfl⟩
  ·rintro r H' ⟨ta,TA,rfl,hrow,rfl⟩ _
   rcases hrow with⟨h1,rfl,rfl⟩|⟨T,cap,rs,rfl,hcap,rfl⟩
   ·exact .inr (.inr ⟨h1,rfl,rfl⟩)
   ·left
    refine⟨T,cap,9,_,[],List.Perm.refl _,.inl ⟨?_,rfl⟩⟩
    simp only[zaK,fzA]
    rw[if_pos ⟨trivial,trivial,by omega,by omega⟩,List.drop_zero,xC,List.take_left' (by simp[strs])]
 ·rintro r H' (⟨rfl,rfl⟩|⟨h1,rfl,rfl⟩)
  ·exact .inl ⟨rfl,rfl⟩
  ·right
   exact⟨_,rfl,by rw[h1];rfl,rfl⟩
theorem zsc (ws:List Txt) (h:∀w∈ws,w≠[]) (hl:ws.length<=1000000000):PC Tryz.prog 94 [.av (.slice 9) (.sl .no (strs ws))] (.av .bool (.b (G7 ws))):=by
 refine zow Tryz.func94 cf0 fun imm0 w0=>?_
 cases ws with
 | nil=>simp (disch:=omega) [zz,strs,G7,Tryz.f94]
 | cons w r =>
  have hw:=h w (by simp)
  cases w with
  | nil=>exact absurd rfl hw
  | cons c w' =>
   have hr:¬(r.length:Int)+1=0:=by omega
   have h35:=u8i c 35
   by_cases hc:c=35
   ·have hcI:((c.toNat:Nat):Int)=35:=h35.2 hc
    simp (disch:=omega) [zz,strs,G7,hr,hcI,hc,Tryz.f94]
   ·have hcI:¬((c.toNat:Nat):Int)=35:=fun e=>hc (h35.1 e)
    simp (disch:=omega) [zz,strs,G7,hr,hc,hcI,Tryz.f94]
end
end Go.Proofs.YtdkieabmeiojjaaGreatDoor
