/- Does a pattern match a path? Row by row, as the reference does it: pla. No condition. -/
import Derived.Test.YtfkcpballfhddaaGreatDoorTK0ToSD1
set_option linter.unusedSimpArgs false
set_option linter.unusedVariables false
set_option linter.unusedSectionVars false
set_option maxHeartbeats 64000000
set_option maxRecDepth 100000
namespace Go.Proofs.YtfkcpballfhddaaGreatDoor
open Go Go.Ab
open Classical
section
variable [Sel] [SelPow] [SelMax]
def u7:Bool->List UInt8->Bool
 | _,[]=>true
 | b,c::r=>(QA c||YY c)&&(!(b&&decide (c=42))&&u7 (decide (c=42)) r)
theorem zfM:∀(s:List UInt8) (b:Bool),u7 b s=(xB s&&!(b&&wL s [42]))
 | [],b=>by cases b<;>rfl
 | c::r,b=>by
  have ih:=zfM r (decide (c=42))
  have h1:wL (c::r) [42]=decide (c=42):=by simp[wL]
  have h2:wL (c::r) [42,42]=(decide (c=42)&&wL r [42]):=by
   cases r<;>simp[wL]
  rw[u7,xB,ih,h1,h2]
  cases QA c<;>cases YY c<;>cases b<;>cases decide (c=42)<;>cases xB r<;>cases wL r [42]<;>rfl
theorem zlQ {b:Bool} {s:List UInt8} {k:Nat} {c:UInt8} (h:s[k]?=some c):u7 b (s.drop k)=((QA c||YY c)&&(!(b&&decide (c=42))&&u7 (decide (c=42)) (s.drop (k+1)))):=by
 rw[Z2 h,u7]
def dT (s:List UInt8):Nat->Bool
 | 0=>false
 | k+1=>decide (s[k]?=some 42)
theorem zre (c:UInt8):QM [97,c]=QA c:=by
 have h1:jS 97=true:=by decide
 simp[QM,h1,QA]
theorem zke (s:List UInt8) (hs:s.length<=1000000000):PC Tryz.prog 91 [.av .str (.s s)] (.av .bool (.b (yX s))):=by
 refine zow Tryz.func91 cf0 fun imm0 w0=>?_
 by_cases h0:s=[42,42]
 ·have:yX s=true:=by simp[yX,h0]
  simp (disch:=omega) [zz,h0,Tryz.f91]
  rw[<-h0];exact this
 have hpg:yX s=(xB s&&decide (1<=s.length/\s.length<=64/\s≠[46]/\s≠[46,46])):=by simp[yX,h0]
 by_cases h1:s=[]
 ·have hr:yX s=false:=by rw[hpg,h1];simp
  simp (disch:=omega) [zz,h0,h1,Tryz.f91]
  rw[<-h1];exact hr
 have h1':¬(s.length:Int)=0:=fun h=>h1 (List.eq_nil_of_length_eq_zero (by omega))
 have h1l:1<=s.length:=by omega
 by_cases h2:s.length<=64
 rotate_left
 ·have hr:yX s=false:=by rw[hpg];simp[h2]
  have h2':(64:Int)<s.length:=by omega
  simp (disch:=omega) [zz,h0,h1,h1',h2',hr,Tryz.f91]
 have h2':¬(64:Int)<s.length:=by omega
 by_cases h3:s=[46]
 ·have hr:yX s=false:=by rw[hpg];simp[h3]
  simp (disch:=omega) [zz,h0,h1,h1',h2',h3,Tryz.f91]
  rw[<-h3];exact hr
 by_cases h4:s=[46,46]
 ·have hr:yX s=false:=by rw[hpg];simp[h4]
  simp (disch:=omega) [zz,h0,h1,h1',h2',h3,h4,Tryz.f91]
  rw[<-h4];exact hr
 have hpw:yX s=u7 false s:=by rw[hpg,zfM];simp[h1l,h2,h3,h4]
 simp (disch:=omega) [zz,h0,h1,h1',h2',h3,h4]
 refine AT.loop' (α:=Nat) (fun k=>St.of [(0,.av .str (.s s)),(3,.av (.int .i64) (.i .i64 k))] [] (fun _=>0) []) (fun k=>k<=s.length/\u7 false s=u7 (dT s k) (s.drop k)) (fun k=>s.length-k) 0 ?_ ?_ ?_
 ·apply Le.of<;>simp[le9,qJ]<;>try omega
 ·exact⟨by omega,by simp[dT]⟩
 rintro k ⟨hk,hg⟩ KL hN hE
 refine zrd cf0 ?_
 by_cases hlt:k<s.length
 rotate_left
 ·have hlt':¬(k:Int)<s.length:=by omega
  rw[List.drop_of_length_le (by omega)]at hg
  have hr:yX s=true:=by rw[hpw,hg];rfl
  simp (disch:=omega) [zz,hlt']
  refine hE _ _ (by simp) ?_
  simp (disch:=omega) [zz,Tryz.f91,hr]
 have hlt':(k:Int)<s.length:=by omega
 obtain⟨c,hc⟩:∃c,c=s[k]:=⟨_,rfl⟩
 have hsc:s[k]=c:=hc.symm
 have hgc:s[k]?=some c:=by rw[List.getElem?_eq_getElem hlt,hsc]
 have hat:=zlQ (b:=dT s k) hgc
 have hpt:=zre c
 have hn1:dT s (k+1)=decide (c=42):=by simp[dT,hgc]
 have bad:QA c=false->YY c=false->yX s=false:=by
  intro h1 h2
  rw[hpw,hg,hat,h1,h2];rfl
 have pre:dT s k=true->c=42->yX s=false:=by
  intro h1 h2
  rw[hpw,hg,hat,h1,decide_eq_true h2];simp
 have on:(QA c||YY c)=true->(dT s k=true->c=42->False)->u7 false s=u7 (dT s (k+1)) (s.drop (k+1)):=by
  intro h1 h2
  rw[hg,hat,h1,hn1]
  cases h3:dT s k
  ·simp
  ·have:¬c=42:=fun h=>h2 h3 h
   simp[this]
 by_cases h42:c=42
 ·subst h42
  have hgd:(QA 42||YY 42)=true:=by decide
  cases k with
  | zero =>
   have hz:0<s.length:=by omega
   simp (disch:=omega) [zz,hlt',hz,hsc]
   try (repeat with_reducible refine om ?_)
   refine hN _ 1 ?_ ⟨by omega,on hgd (by simp[dT])⟩ (by omega)
   apply Le.of<;>simp[le9,qJ]<;>try omega
  | succ j =>
   have hj:j<s.length:=by omega
   have hj':((j:Int)+1)-1=j:=by omega
   have hj0:(0:Int)<(j:Int)+1:=by omega
   have hj1:(j:Int)+1<s.length:=by omega
   have hj2:(0:Int)<=(j:Int)+1:=by omega
   obtain⟨d,hd⟩:∃d,d=s[j]:=⟨_,rfl⟩
   have hsd:s[j]=d:=hd.symm
   have hgd':s[j]?=some d:=by rw[List.getElem?_eq_getElem hj,hsd]
   have hpj:dT s (j+1)=decide (d=42):=by simp[dT,hgd']
   by_cases hd42:d=42
   ·subst hd42
    have hr:=pre (by rw[hpj];rfl) rfl
    simp (disch:=omega) [zz,hlt',hsc,hsd,hj',hj0,hj1,hj2,hj]
    try (repeat with_reducible refine om ?_)
    refine hE _ _ (by simp) ?_
    simp (disch:=omega) [zz,Tryz.f91,hr]
   ·have hd42':¬(d.toNat:Int)=42:=by have:=vI (n:=42) (by omega) hd42;simpa using this
    simp (disch:=omega) [zz,hlt',hsc,hsd,hj',hj0,hj1,hj2,hj,hd42,hd42']
    try (repeat with_reducible refine om ?_)
    refine hN _ (j+1+1) ?_ ⟨by omega,on hgd (by rw[hpj];simp[hd42])⟩ (by omega)
    apply Le.of<;>simp[le9,qJ]<;>try omega
 have h42':¬(c.toNat:Int)=42:=by have:=vI (n:=42) (by omega) h42;simpa using this
 have go:(QA c||YY c)=true->u7 false s=u7 (dT s (k+1)) (s.drop (k+1)):=fun h=>on h fun _ h2=>h42 h2
 by_cases h63:c=63
 ·subst h63
  have hgd:(QA 63||YY 63)=true:=by decide
  rcases Nat.eq_zero_or_pos k with rfl|hk0
  ·have hz:0<s.length:=by omega
   simp (disch:=omega) [zz,hlt',hz,hsc]
   try (repeat with_reducible refine om ?_)
   refine hN _ 1 ?_ ⟨by omega,go hgd⟩ (by omega)
   apply Le.of<;>simp[le9,qJ]<;>try omega
  have hkn:k≠0:=by omega
  simp (disch:=omega) [zz,hlt',hsc,hk0,hkn]
  try (repeat with_reducible refine om ?_)
  refine hN _ (k+1) ?_ ⟨by omega,go hgd⟩ (by omega)
  apply Le.of<;>simp[le9,qJ]<;>try omega
 have h63':¬(c.toNat:Int)=63:=by have:=vI (n:=63) (by omega) h63;simpa using this
 have hsl:(s.take (k+1)).drop k=[c]:=by
  rw[List.drop_take,show k+1-k=1 by omega,Z2 hgc];rfl
 simp (disch:=omega) [zz,hlt',hsc,h42,h42',h63,h63',hsl]
 try (repeat with_reducible refine om ?_)
 refine qG (zgg [97,c] (by simp)) rfl rfl (by simp) (by simp[qM,coC,TV.er,AV.er,hsl]) ?_
 rw[hpt]
 cases hp:QA c
 ·have hr:=bad hp (by simp[YY,h63,h42])
  simp (disch:=omega) [zz,hp]
  try (repeat with_reducible refine om ?_)
  refine hE _ _ (by simp) ?_
  simp (disch:=omega) [zz,Tryz.f91,hr]
 ·rcases Nat.eq_zero_or_pos k with rfl|hk0
  ·have hz:0<s.length:=by omega
   simp (disch:=omega) [zz,hp,hlt',hz,hsc,h42,h42']
   try (repeat with_reducible refine om ?_)
   refine hN _ 1 ?_ ⟨by omega,go (by rw[hp];rfl)⟩ (by omega)
   apply Le.of<;>simp[le9,qJ]<;>try omega
  have hkn:k≠0:=by omega
  simp (disch:=omega) [zz,hp,hlt',hsc,h42,h42',hk0,hkn]
  try (repeat with_reducible refine om ?_)
  refine hN _ (k+1) ?_ ⟨by omega,go (by rw[hp];rfl)⟩ (by omega)
  apply Le.of<;>simp[le9,qJ]<;>try omega
theorem znw (p:List UInt8) (hp:p.length<=2000000):PC Tryz.prog 57 [.av .str (.s p)] (.av .bool (.b (xD p))):=by
 refine zow Tryz.func57 cf0 fun imm0 w0=>?_
 have hle:=K4 47 p
 have hlen:∀x∈qE 47 p,x.length<=p.length:=fun x hx=>y6 47 p x hx
 obtain⟨ps,hps⟩:∃ps,ps=qE 47 p:=⟨_,rfl⟩
 simp (disch:=omega) [zz]
 refine zcv (D9 p (by omega)) ?_
 rw[<-hps]at hle hlen |-
 have hpv:xD p=(decide (ps.length<=16)&&ps.all yX):=by rw[hps];rfl
 simp (disch:=omega) [zz,zV]
 refine AT.loop' (α:=Nat) (fun k=>St.of [(3,.av (.slice 9) (.sl .no (strs ps))),(8,.av (.slice 9) (.sl .no (strs ps))),(9,.av (.int .i64) (.i .i64 ps.length)),(10,.av (.int .i64) (.i .i64 k))] [] (fun _=>0) []) (fun k=>k<=ps.length/\(ps.take k).all yX=true) (fun k=>ps.length-k) 0 ?_ ?_ ?_
 ·apply Le.of<;>simp[le9,qJ]<;>try omega
 ·simp
 rintro k ⟨hk,hall⟩ KL hN hE
 refine zrd cf0 ?_
 by_cases hlt:k<ps.length
 ·have hlt':(k:Int)<ps.length:=by omega
  obtain⟨x,hx⟩:∃x,x=ps[k]:=⟨_,rfl⟩
  have hgx:(strs ps)[k]?=some (.s x):=by rw[Q5 ps k hlt,hx]
  have hxl:=hlen x (by rw[hx];exact List.getElem_mem _)
  simp (disch:=omega) [zz,hlt',zV,hgx]
  refine zcv (zke x (by omega)) ?_
  cases hb:yX x
  ·have hr:xD p=false:=by
    have:ps.all yX=false:=List.all_eq_false.2 ⟨x,by rw[hx];exact List.getElem_mem _,by simp[hb]⟩
    rw[hpv,this];simp
   simp (disch:=omega) [zz]
   refine hE _ _ (by simp) ?_
   simp (disch:=omega) [zz,Tryz.f57,hr]
  ·simp (disch:=omega) [zz]
   refine hN _ (k+1) ?_ ⟨by omega,by rw[List.take_succ_eq_append_getElem hlt,List.all_append,hall,<-hx];simp[hb]⟩ (by omega)
   apply Le.of<;>simp[le9,qJ]<;>try omega
 ·have hlt':¬(k:Int)<ps.length:=by omega
  rw[List.take_of_length_le (by omega)]at hall
  have hd:decide ((ps.length:Int)<=16)=decide (ps.length<=16):=decide_eq_decide.2 (by omega)
  have hr:xD p=decide (ps.length<=16):=by rw[hpv,hall];simp
  simp (disch:=omega) [zz,hlt']
  refine hE _ _ (by simp) ?_
  simp (disch:=omega) [zz,Tryz.f57,hr,zV,hd]
def QB:List UInt8->List (List UInt8)
 | []=>[]
 | b::l=>if b=10 then []::QB l else match QB l with
  | []=>[[b]]
  | x::r=>(b::x)::r
theorem zdu:∀l:List UInt8,QB (l++[10])=qE 10 l
 | []=>by simp[QB,qE]
 | b::l=>by
  have ih:=zdu l
  rw[List.cons_append,QB,qE,ih]
  cases qE 10 l<;>rfl
theorem zdy:∀(l:List UInt8) (b:UInt8),b≠10->QB (l++[b])=qE 10 (l++[b])
 | [],b,h=>by simp[QB,qE,h]
 | c::l,b,h=>by
  have ih:=zdy l b h
  rw[List.cons_append,QB,qE,ih]
  cases qE 10 (l++[b])<;>rfl
theorem zgx (l:List UInt8):qZ l=QB l:=by
 unfold qZ
 rcases List.eq_nil_or_concat l with rfl|⟨l',b,rfl⟩
 ·simp[QB]
 rw[List.concat_eq_append]
 rw[if_neg (by simp)]
 by_cases hb:b=10
 ·subst hb
  rw[zdu]
  have hs:K5 (l'++[10]) [10]=l':=by
   unfold K5
   have:XM (l'++[10]) [10]=true:=by simp[XM]
   rw[if_pos this]
   simp
  rw[hs]
 ·rw[zdy l' b hb]
  have hs:K5 (l'++[b]) [10]=l'++[b]:=by
   unfold K5
   have:XM (l'++[b]) [10]=false:=by simp[XM,hb]
   rw[if_neg (by rw[this];decide)]
  rw[hs]
theorem zc3:∀(a b:List UInt8),(∀x∈a,x≠10)->QB (a++10::b)=a::QB b
 | [],b,_=>by simp[QB]
 | c::a,b,h=>by
  have ih:=zc3 a b fun x hx=>h x (by simp[hx])
  have hc:c≠10:=h c (by simp)
  rw[List.cons_append,QB,if_neg hc,ih]
theorem zaL:∀(a:List UInt8),(∀x∈a,x≠10)->QB a=if a=[] then [] else [a]
 | [],_=>rfl
 | c::a,h=>by
  have ih:=zaL a fun x hx=>h x (by simp[hx])
  have hc:c≠10:=h c (by simp)
  rw[QB,if_neg hc,ih]
  cases a<;>simp
abbrev zsE:Cfg:=⟨fun _=>false,fun _=>false⟩
def tkA (d:Nat):Nat->Ab.Tok
 | 0=>.full
 | k+1=>.own d (k+1)
structure CO (l:List UInt8) (i f:Nat) (L:List (List UInt8)):Prop where
 fi:f<=i
 il:i<=l.length
 few:L.length<=i
 all:QB l=L++QB (l.drop f)
 no:∀x∈(l.take i).drop f,x≠10
theorem CO.start (l:List UInt8):CO l 0 0 []:=⟨by omega,by omega,by simp,by simp,by simp⟩
theorem zqN {l:List UInt8} {i:Nat} (h:i<l.length):l.take (i+1)=l.take i++[l[i]]:=List.take_succ_eq_append_getElem h
theorem CO.next {l:List UInt8} {i f:Nat} {L:List (List UInt8)} (h:CO l i f L) (hi:i<l.length) (hc:l[i]≠10):CO l (i+1) f L:=by
 have h1:=h.fi
 have h2:=h.few
 refine⟨by omega,by omega,by omega,h.all,fun x hx=>?_⟩
 rw[zqN hi,List.drop_append_of_le_length (by rw[List.length_take];omega)]at hx
 rcases List.mem_append.1 hx with hx|hx
 ·exact h.no x hx
 ·rw[List.mem_singleton.1 hx];exact hc
theorem CO.line {l:List UInt8} {i f:Nat} {L:List (List UInt8)} (h:CO l i f L) (hi:i<l.length) (hc:l[i]=10):CO l (i+1) (i+1) (L++[(l.take i).drop f]):=by
 have h1:=h.fi
 have h2:=h.few
 refine⟨by omega,by omega,by rw[List.length_append,List.length_singleton];omega,?_,fun x hx=>by rw[List.drop_eq_nil_of_le (by rw[List.length_take];omega)]at hx;cases hx⟩
 have e:l.drop f=(l.take i).drop f++10::l.drop (i+1):=by
  conv=>lhs;rw[<-List.take_append_drop i l]
  rw[List.drop_append_of_le_length (by rw[List.length_take];omega),List.drop_eq_getElem_cons hi,hc]
 rw[h.all,e,zc3 _ _ h.no]
 simp
theorem CO.done {l:List UInt8} {f:Nat} {L:List (List UInt8)} (h:CO l l.length f L):qZ l=L++if f<l.length then [l.drop f] else []:=by
 rw[zgx,h.all]
 have hn:∀x∈l.drop f,x≠10:=fun x hx=>h.no x (by rw[List.take_length];exact hx)
 rw[zaL _ hn]
 by_cases hf:f<l.length
 ·rw[if_pos hf,if_neg (by intro e;have:=congrArg List.length e;simp at this;omega)]
 ·rw[if_neg hf,if_pos (List.drop_eq_nil_of_le (by omega))]
theorem zlw (l:Txt) (hl:l.length<=1000000000):PC Tryz.prog 87 [.av .str (.s l)] (.av (.slice 9) (.sl .no (strs (qZ l)))):=by
 refine zow Tryz.func87 zsE fun imm0 w0=>?_
 simp (disch:=omega) [zz]
 refine AT.loop' (α:=Nat × Nat × List (List UInt8)) (fun x=>St.of [(0,.av .str (.s l)),(3,.av (.slice 9) (.sl (tkA 22 x.2.2.length) (strs x.2.2))),(4,.av (.int .i64) (.i .i64 x.2.1)),(5,.av (.int .i64) (.i .i64 x.1))] [] (fun j=>if j=22 then x.2.2.length else 0) [])
  (fun x=>CO l x.1 x.2.1 x.2.2) (fun x=>l.length-x.1) (0,0,[]) ?_ ?_ ?_
 ·apply Le.of<;>simp[zA,qF,tkA,strs]<;>try omega
 ·exact CO.start l
 rintro⟨i,f,L⟩ hinv KL hN hE
 simp only at hinv hN
 refine zrd zsE ?_
 have hfi:=hinv.fi
 have hil:=hinv.il
 have hfw:=hinv.few
 by_cases hlt:i<l.length
 ·have hlt':(i:Int)<l.length:=by omega
  have hg:l[i]?=some l[i]:=List.getElem?_eq_getElem hlt
  by_cases hc:l[i]=10
  ·have hn:=hinv.line hlt hc
   have hcI:((l[i].toNat:Nat):Int)=10:=by rw[hc];rfl
   obtain⟨q,hq⟩:∃q,q=(l.take i).drop f:=⟨_,rfl⟩
   rw[<-hq]at hn
   cases L with
   | nil =>
    simp (disch:=omega) [zz,hlt,hlt',hg,hcI,<-hq,tkA]
    (repeat with_reducible refine om ?_)
    simp (disch:=omega) [zz,y4]
    (repeat with_reducible refine om ?_)
    refine hN _ (i+1,i+1,[q]) ?_ hn (by simp only;omega)
    apply Le.of<;>simp[zA,qF,tkA,strs]<;>try omega
   | cons y L =>
    simp only[List.length_cons]at hfw
    simp (disch:=omega) [zz,hlt,hlt',hg,hcI,<-hq,tkA,strs]
    (repeat with_reducible refine om ?_)
    simp (disch:=omega) [zz,y4]
    (repeat with_reducible refine om ?_)
    refine hN _ (i+1,i+1,(y::L)++[q]) ?_ hn (by simp only;omega)
    apply Le.of<;>simp[zA,qF,tkA,strs]<;>try omega
    all_goals (intro j;by_cases hj:j=22<;>simp[hj])
  ·have hn:=hinv.next hlt hc
   have hcI:¬((l[i].toNat:Int)=10):=fun h=>hc (UInt8.toNat_inj.1 (by
                                          have:l[i].toNat=10:=by omega
                                          simpa using this))
   simp (disch:=omega) [zz,hlt,hlt',hg,hcI]
   refine hN _ (i+1,f,L) ?_ hn (by simp only;omega)
   apply Le.of<;>simp[zA,qF,qJ]<;>try omega
 ·have hin:i=l.length:=by omega
  subst hin
  have hlt':¬(l.length:Int)<l.length:=by omega
  have hd:=hinv.done
  simp (disch:=omega) [zz,hlt']
  refine hE _ _ (by simp) ?_
  clear hN hE
  by_cases hf:f<l.length
  ·have hf':(f:Int)<l.length:=by omega
   rw[if_pos hf]at hd
   cases L with
   | nil =>
    simp (disch:=omega) [zz,hf',tkA]
    (repeat with_reducible refine om ?_)
    simp (disch:=omega) [zz,y4]
    (repeat with_reducible refine om ?_)
    simp (disch:=omega) [zz,hd,strs,AV.ers_eq,AV.er,Function.comp_def,Tryz.f87]
   | cons y L =>
    simp only[List.length_cons]at hfw
    simp (disch:=omega) [zz,hf',tkA,strs]
    (repeat with_reducible refine om ?_)
    simp (disch:=omega) [zz,y4]
    (repeat with_reducible refine om ?_)
    simp (disch:=omega) [zz,hd,strs,AV.ers_eq,AV.er,Function.comp_def,Tryz.f87]
  ·have hf':¬(f:Int)<l.length:=by omega
   rw[if_neg hf,List.append_nil]at hd
   simp (disch:=omega) [zz,hf',hd,Tryz.f87]
structure WI (l:List UInt8) (i:Nat) (inw:Bool) (ps:List (List UInt8)):Prop where
 il:i<=l.length
 few:ps.length<=i
 all:yW inw ps (l.drop i)=z6 l
 ne:inw=true->ps≠[]/\ps.getLastD []≠[]
 wl:∀x∈ps,x.length<=i
theorem WI.start (l:List UInt8):WI l 0 false []:=⟨by omega,by simp,by simp[yW,z6],by simp,by simp⟩
theorem WI.sep {l:List UInt8} {i:Nat} {inw:Bool} {ps:List (List UInt8)} (h:WI l i inw ps) (hi:i<l.length) (hc:WH l[i]=true):WI l (i+1) false ps:=by
 have h2:=h.few
 have ha:=h.all
 rw[List.drop_eq_getElem_cons hi]at ha
 refine⟨by omega,by omega,?_,(fun e=>by cases e),fun x hx=>by have:=h.wl x hx;omega⟩
 cases inw with
 | true =>
  obtain⟨h3,h4⟩:=h.ne rfl
  rw[zbF h3 h4 hc]at ha
  exact ha
 | false =>
  rw[CP hc]at ha
  exact ha
theorem WI.more {l:List UInt8} {i:Nat} {q:List (List UInt8)} {x:List UInt8} (h:WI l i true (q++[x])) (hi:i<l.length) (hc:WH l[i]=false):WI l (i+1) true (q++[x++[l[i]]]):=by
 have h2:=h.few
 have ha:=h.all
 rw[List.drop_eq_getElem_cons hi,zhx (by simp) hc]at ha
 refine⟨by omega,by simp at h2 |-;omega,?_,fun _=>by simp,fun y hy=>?_⟩
 rotate_left
 ·rcases List.mem_append.1 hy with hy|hy
  ·have:=h.wl y (by simp[hy]);omega
  ·have:=h.wl x (by simp)
   rw[List.mem_singleton.1 hy];simp;omega
 rw[<-ha]
 congr 1
 simp
theorem WI.new {l:List UInt8} {i:Nat} {ps:List (List UInt8)} (h:WI l i false ps) (hi:i<l.length) (hc:WH l[i]=false):WI l (i+1) true (ps++[[l[i]]]):=by
 have h2:=h.few
 have ha:=h.all
 rw[List.drop_eq_getElem_cons hi,zg9 hc]at ha
 refine⟨by omega,by simp;omega,ha,fun _=>by simp,fun y hy=>?_⟩
 rcases List.mem_append.1 hy with hy|hy
 ·have:=h.wl y hy;omega
 ·rw[List.mem_singleton.1 hy];simp
theorem WI.done {l:List UInt8} {inw:Bool} {ps:List (List UInt8)} (h:WI l l.length inw ps):z6 l=ps:=by
 have ha:=h.all
 rw[List.drop_length,zgr inw ps h.ne]at ha
 exact ha.symm
theorem u8i (c d:UInt8):((c.toNat:Nat):Int)=((d.toNat:Nat):Int)<->c=d:=⟨fun h=>UInt8.toNat_inj.1 (by omega),fun h=>by rw[h]⟩
def zoN (ps:List (List UInt8)) (ta:AV) (TA:q8):Prop:=(ps=[]/\ta=.nsl/\TA=[])\/∃T cap rs,ta=.msl T 9 0 ps.length cap/\ps.length+rs.length=cap/\TA=[(T,.var (.arr cap 9) (.agg (strs (ps++rs))))]
theorem zoN.er {ps:List (List UInt8)} {ta:AV} {TA:q8} (h:zoN ps ta TA):ta.er=ta/\TA.er=TA:=by
 rcases h with⟨_,rfl,rfl⟩|⟨T,cap,rs,rfl,_,rfl⟩
 ·exact⟨rfl,rfl⟩
 ·refine⟨rfl,?_⟩
  simp[q8.er_cons,q8.er_nil,HObj.er_var,AV.erk,strs,AV.erks_eq,Function.comp_def]
theorem zsf {l:List UInt8} {i:Nat} (h:i<l.length):(l.take (i+1)).drop i=[l[i]]:=by
 rw[zqN h,List.drop_append_of_le_length (by rw[List.length_take];omega),List.drop_eq_nil_of_le (by rw[List.length_take];omega)]
 rfl
theorem atS (ps:List (List UInt8)) (y:AV) (R:List AV):(strs ps++y::R)[ps.length]?=some y:=by
 rw[List.getElem?_append_right (by simp[strs])]
 simp[strs]
theorem zst (ps:List (List UInt8)) (y z:AV) (R:List AV):(strs ps++y::R).set ps.length z=strs ps++z::R:=by
 rw[List.set_append_right _ _ (by simp[strs])]
 simp[strs]
theorem zjU (x:List UInt8) (l:List (List UInt8)):strs (x::l)=AV.s x::strs l:=rfl
theorem znl (n:Nat):strs (List.replicate n [])=List.replicate n (AV.s []):=by simp[strs]
abbrev zsU:Cfg:=⟨fun _=>false,fun n=>n==43⟩
theorem ziH (l:Txt) (hl:l.length<=1000000):q7 Tryz.prog 88 [.av .str (.s l)] [] fun r H'=>∃ta TA,r=.av (.slice 9) ta/\zoN (z6 l) ta TA/\Ab.HSub TA H':=by
 refine zov Tryz.func88 zsU fun imm0 w0=>?_
 simp (disch:=omega) [zz]
 refine AT.nsl 3 9 (by simp ) ?_
 refine AT.loop' (α:=Nat × Bool × List (List UInt8) × AV × q8) (fun x=>St.of [(0,.av .str (.s l)),(3,.av (.slice 9) x.2.2.2.1),(4,.av .bool (.b x.2.1)),(5,.av (.int .i64) (.i .i64 x.1))] [] (fun _=>0) x.2.2.2.2)
  (fun x=>WI l x.1 x.2.1 x.2.2.1/\zoN x.2.2.1 x.2.2.2.1 x.2.2.2.2) (fun x=>l.length-x.1) (0,false,[],.nsl,[]) ?_ ?_ ?_
 ·apply Le.of<;>simp[zA,qF,qJ]<;>try omega
 ·exact⟨WI.start l,.inl ⟨rfl,rfl,rfl⟩⟩
 rintro⟨i,inw,ps,ta,TA⟩ ⟨hinv,hrow⟩ KL hN hE
 simp only at hinv hrow hN
 have hil:=hinv.il
 have hfw:=hinv.few
 refine zrd zsU ?_
 by_cases hlt:i<l.length
 ·have hlt':(i:Int)<l.length:=by omega
  have hg:l[i]?=some l[i]:=List.getElem?_eq_getElem hlt
  have h32:((l[i].toNat:Nat):Int)=32<->l[i]=32:=u8i l[i] 32
  have h9:((l[i].toNat:Nat):Int)=9<->l[i]=9:=u8i l[i] 9
  by_cases hs:WH l[i]=true
  ·have hn:=hinv.sep hlt hs
   by_cases e32:l[i]=32
   ·have e32':=h32.2 e32
    simp (disch:=omega) [zz,hlt,hlt',hg,e32']
    refine hN _ (i+1,false,ps,ta,TA) ?_ ⟨hn,hrow⟩ (by simp only;omega)
    apply Le.of<;>simp[zA,qF,qJ]<;>try omega
   ·have e32':¬((l[i].toNat:Nat):Int)=32:=fun h=>e32 (h32.1 h)
    have e9':=h9.2 (by simpa[WH,e32]using hs)
    simp (disch:=omega) [zz,hlt,hlt',hg,e32',e9']
    refine hN _ (i+1,false,ps,ta,TA) ?_ ⟨hn,hrow⟩ (by simp only;omega)
    apply Le.of<;>simp[zA,qF,qJ]<;>try omega
  have hs':WH l[i]=false:=by simpa using hs
  have e32':¬((l[i].toNat:Nat):Int)=32:=fun h=>by simp[WH,h32.1 h]at hs'
  have e9':¬((l[i].toNat:Nat):Int)=9:=fun h=>by simp[WH,h9.1 h]at hs'
  cases inw with
  | true =>
   obtain⟨hne,hla⟩:=hinv.ne rfl
   rcases hrow with⟨h1,_⟩|⟨T,cap,rs,rfl,hcap,rfl⟩
   ·exact absurd h1 hne
   obtain⟨q,x,rfl⟩:∃q x,ps=q++[x]:=⟨_,_,V4 hne⟩
   have hn:=hinv.more hlt hs'
   have hcut:=zsf hlt
   simp only[List.length_append,List.length_singleton]at hfw hcap
   have hwl:=hinv.wl x (by simp)
   have hps:strs (q++[x]++rs)=strs q++AV.s x::strs rs:=by rw[wX,wX];simp[strs]
   have hat:=atS q (.s x) (strs rs)
   have hst:=fun z=>zst q (.s x) z (strs rs)
   rw[hps]
   obtain⟨c,hcc⟩:∃c,c=l[i]:=⟨_,rfl⟩
   rw[<-hcc]at hcut hn
   simp (disch:=omega) [zz,hlt,hlt',hg,e32',e9',List.length_append,hat,hst,hcut]
   (repeat with_reducible refine om ?_)
   refine hN _ (i+1,true,q++[x++[c]],.msl T 9 0 (q.length+1) cap,[(T,.var (.arr cap 9) (.agg (strs (q++[x++[c]]++rs))))]) ?_ ⟨hn,.inr ⟨T,cap,rs,by simp,by simp;omega,rfl⟩⟩ (by simp only;omega)
   apply Le.of<;>simp[zA,qF,wX,zjU,strs]<;>try omega
  | false =>
   have hn:=hinv.new hlt hs'
   have hcut:=zsf hlt
   rcases hrow with⟨rfl,rfl,rfl⟩|⟨T,cap,rs,rfl,hcap,rfl⟩
   ·simp (disch:=omega) [zz,hlt,hlt',hg,e32',e9',hcut]
    (repeat with_reducible refine om ?_)
    intro b cap hcap
    (repeat with_reducible refine om ?_)
    refine hN _ (i+1,true,[[l[i]]],.msl b 9 0 1 cap,[(b,.var (.arr cap 9) (.agg (strs ([[l[i]]]++List.replicate (cap-1) []))))]) ?_ ⟨hn,.inr ⟨b,cap,List.replicate (cap-1) [],by simp,by simp;omega,rfl⟩⟩ (by simp only;omega)
    apply Le.of<;>simp[zA,qF,wX,zjU,znl,strs]<;>try omega
   ·have e1:List.take ps.length (strs (ps++rs))=strs ps:=by rw[wX,List.take_left' (by simp[strs])]
    have e2:List.drop (ps.length+1) (strs (ps++rs))=strs (rs.drop 1):=by
     rw[wX,List.drop_append]
     simp[strs]
    have hat:=fun R=>atS ps (.s []) R
    have hst:=fun z R=>zst ps (.s []) z R
    simp (disch:=omega) [zz,hlt,hlt',hg,e32',e9',e1,e2,hcut,hat,hst]
    (repeat with_reducible refine om ?_)
    refine⟨fun hc=>?_,fun hc b2 cap2 hb2 hc2=>?_⟩
    ·(repeat with_reducible refine om ?_)
     refine hN _ (i+1,true,ps++[[l[i]]],.msl T 9 0 (ps.length+1) cap,[(T,.var (.arr cap 9) (.agg (strs (ps++[[l[i]]]++rs.drop 1))))]) ?_ ⟨hn,.inr ⟨T,cap,rs.drop 1,by simp,by simp;omega,rfl⟩⟩ (by simp only;omega)
     apply Le.of<;>simp[zA,qF,wX,zjU,znl,strs]<;>try omega
    ·(repeat with_reducible refine om ?_)
     refine hN _ (i+1,true,ps++[[l[i]]],.msl b2 9 0 (ps.length+1) cap2,[(b2,.var (.arr cap2 9) (.agg (strs (ps++[[l[i]]]++List.replicate (cap2-(ps.length+1)) []))))]) ?_ ⟨hn,.inr ⟨b2,cap2,List.replicate (cap2-(ps.length+1)) [],by simp,by simp;omega,rfl⟩⟩ (by simp only;omega)
     apply Le.of<;>simp[zA,qF,wX,zjU,znl,strs]<;>try omega
 ·have hin:i=l.length:=by omega
  subst hin
  have hlt':¬(l.length:Int)<l.length:=by omega
  have hd:=hinv.done
  simp (disch:=omega) [zz,hlt']
  refine hE _ _ (by simp) ?_
  obtain⟨t1,t2⟩:=hrow.er
  simp (disch:=omega) [zz,t1,t2,Tryz.f88]
  rw[hd]
  exact⟨TA,hrow,HSub.refl _⟩
theorem zkP (l:Txt) (hl:l.length<=1000000):PC Tryz.prog 88 [.av .str (.s l)] (.av (.slice 9) (.sl .no (strs (z6 l)))):=by
 refine q7.nilR (R:=fun r H'=>(r=.av (.slice 9) (.sl .no (strs (z6 l)))/\H'=[])\/(z6 l=[]/\r=.av (.slice 9) .nsl/\H'=[])) ?_ ?_
 ·refine q7.freeze (R:=fun r H'=>∃ta TA,r=.av (.slice 9) ta/\zoN (z6 l) ta TA/\H'=TA) laid ?_ ?_
  ·exact q7.sub (ziH l hl) fun r H' ⟨ta,TA,h1,h2,h3⟩ _=>⟨TA,h3,ta,TA,h1,h2,rfl⟩
  ·rintro r H' ⟨ta,TA,rfl,hrow,rfl⟩ _
   rcases hrow with⟨h1,rfl,rfl⟩|⟨T,cap,rs,rfl,hcap,rfl⟩
   ·exact .inr (.inr ⟨h1,rfl,rfl⟩)
   ·left
    refine⟨T,cap,9,_,[],List.Perm.refl _,.inl ⟨?_,rfl⟩⟩
    simp only[CQ,fzA]
    rw[if_pos ⟨trivial,trivial,by omega,by omega⟩,List.drop_zero,wX,List.take_left' (by simp[strs])]
 ·rintro r H' (⟨rfl,rfl⟩|⟨h1,rfl,rfl⟩)
  ·exact .inl ⟨rfl,rfl⟩
  ·right
   exact⟨_,rfl,by rw[h1];rfl,rfl⟩
theorem zhm (ws:List Txt) (h:∀w∈ws,w≠[]) (hl:ws.length<=1000000000):PC Tryz.prog 89 [.av (.slice 9) (.sl .no (strs ws))] (.av .bool (.b (xX ws))):=by
 refine zow Tryz.func89 cf0 fun imm0 w0=>?_
 cases ws with
 | nil=>simp (disch:=omega) [zz,strs,xX,Tryz.f89]
 | cons w r =>
  have hw:=h w (by simp)
  cases w with
  | nil=>exact absurd rfl hw
  | cons c w' =>
   have hr:¬(r.length:Int)+1=0:=by omega
   have h35:=u8i c 35
   by_cases hc:c=35
   ·have hcI:((c.toNat:Nat):Int)=35:=h35.2 hc
    simp (disch:=omega) [zz,strs,xX,hr,hcI,hc,Tryz.f89]
   ·have hcI:¬((c.toNat:Nat):Int)=35:=fun e=>hc (h35.1 e)
    simp (disch:=omega) [zz,strs,xX,hr,hc,hcI,Tryz.f89]
theorem zfe (w:Txt) (ws:List Txt) (hl:ws.length<=1000000000) (hw:∀x∈ws,x.length<=1000000000):PC Tryz.prog 90 [.av (.slice 9) (.sl .no (strs (w::ws)))] (.av .bool (.b (wK w ws))):=by
 have h0:ws=[]\/(∃x,ws=[x])\/(∃x y,ws=[x,y])\/∃x y z r,ws=x::y::z::r:=by
  rcases ws with _|⟨x,_|⟨y,_|⟨z,r⟩⟩⟩
  ·exact .inl rfl
  ·exact .inr (.inl ⟨x,rfl⟩)
  ·exact .inr (.inr (.inl ⟨x,y,rfl⟩))
  ·exact .inr (.inr (.inr ⟨x,y,z,r,rfl⟩))
 have hr:∀r:List Txt,¬(r.length:Int)+1+1+1+1=2:=fun r=>by omega
 have hr3:∀r:List Txt,¬(r.length:Int)+1+1+1+1=3:=fun r=>by omega
 have hr1:∀r:List Txt,¬(r.length:Int)+1+1+1+1=1:=fun r=>by omega
 have hr0:∀r:List Txt,(0:Int)<(r.length:Int)+1+1+1+1:=fun r=>by omega
 refine zow Tryz.func90 cf0 fun imm0 w0=>?_
 by_cases hText:w=zH
 ·subst hText
  simp (disch:=omega) [zz,strs,wK,zH,Tryz.f90]
 by_cases hRead:w=qW
 ·subst hRead
  rcases h0 with rfl|⟨x,rfl⟩|⟨x,y,rfl⟩|⟨x,y,z,r,rfl⟩
  ·simp (disch:=omega) [zz,strs,wK,zH,qW,jD,qV,zC,jL,zS,zL,zR,zW,qY,z7,zZ,Tryz.f90]
  ·have hm:=WF x (hw x (by simp))
   simp (disch:=omega) [zz,strs,zH,qW,jD,qV,zC,jL,zS,zL,zR,zW,qY,z7,zZ]
   refine zcv hm ?_
   simp (disch:=omega) [zz,wK,zH,qW,jD,qV,zC,jL,zS,zL,zR,zW,qY,z7,zZ,Tryz.f90]
  ·simp (disch:=omega) [zz,strs,wK,zH,qW,jD,qV,zC,jL,zS,zL,zR,zW,qY,z7,zZ,Tryz.f90]
  ·simp (disch:=omega) [zz,strs,hr,hr0,wK,zH,qW,jD,qV,zC,jL,zS,zL,zR,zW,qY,z7,zZ,Tryz.f90]
 by_cases hTry:w=jD
 ·subst hTry
  rcases h0 with rfl|⟨x,rfl⟩|⟨x,y,rfl⟩|⟨x,y,z,r,rfl⟩
  ·simp (disch:=omega) [zz,strs,wK,zH,qW,jD,qV,zC,jL,zS,zL,zR,zW,qY,z7,zZ,Tryz.f90]
  ·have hm:=WF x (hw x (by simp))
   simp (disch:=omega) [zz,strs,zH,qW,jD,qV,zC,jL,zS,zL,zR,zW,qY,z7,zZ]
   refine zcv hm ?_
   simp (disch:=omega) [zz,wK,zH,qW,jD,qV,zC,jL,zS,zL,zR,zW,qY,z7,zZ,Tryz.f90]
  ·simp (disch:=omega) [zz,strs,wK,zH,qW,jD,qV,zC,jL,zS,zL,zR,zW,qY,z7,zZ,Tryz.f90]
  ·simp (disch:=omega) [zz,strs,hr,hr0,wK,zH,qW,jD,qV,zC,jL,zS,zL,zR,zW,qY,z7,zZ,Tryz.f90]
 by_cases hWrite:w=qV
 ·subst hWrite
  rcases h0 with rfl|⟨x,rfl⟩|⟨x,y,rfl⟩|⟨x,y,z,r,rfl⟩
  ·simp (disch:=omega) [zz,strs,wK,zH,qW,jD,qV,zC,jL,zS,zL,zR,zW,qY,z7,zZ,Tryz.f90]
  ·have hm:=WF x (hw x (by simp))
   simp (disch:=omega) [zz,strs,zH,qW,jD,qV,zC,jL,zS,zL,zR,zW,qY,z7,zZ]
   refine zcv hm ?_
   simp (disch:=omega) [zz,wK,zH,qW,jD,qV,zC,jL,zS,zL,zR,zW,qY,z7,zZ,Tryz.f90]
  ·simp (disch:=omega) [zz,strs,wK,zH,qW,jD,qV,zC,jL,zS,zL,zR,zW,qY,z7,zZ,Tryz.f90]
  ·simp (disch:=omega) [zz,strs,hr,hr0,wK,zH,qW,jD,qV,zC,jL,zS,zL,zR,zW,qY,z7,zZ,Tryz.f90]
 by_cases hScan:w=zC
 ·subst hScan
  rcases h0 with rfl|⟨x,rfl⟩|⟨x,y,rfl⟩|⟨x,y,z,r,rfl⟩
  ·simp (disch:=omega) [zz,strs,wK,zH,qW,jD,qV,zC,jL,zS,zL,zR,zW,qY,z7,zZ,Tryz.f90]
  ·simp (disch:=omega) [zz,strs,wK,zH,qW,jD,qV,zC,jL,zS,zL,zR,zW,qY,z7,zZ,Tryz.f90]
  ·have hm:=WF x (hw x (by simp))
   simp (disch:=omega) [zz,strs,zH,qW,jD,qV,zC,jL,zS,zL,zR,zW,qY,z7,zZ]
   refine zcv hm ?_
   simp (disch:=omega) [zz,wK,zH,qW,jD,qV,zC,jL,zS,zL,zR,zW,qY,z7,zZ,Tryz.f90]
  ·simp (disch:=omega) [zz,strs,hr3,hr0,wK,zH,qW,jD,qV,zC,jL,zS,zL,zR,zW,qY,z7,zZ,Tryz.f90]
 by_cases hEnv:w=jL
 ·subst hEnv
  rcases h0 with rfl|⟨x,rfl⟩|⟨x,y,rfl⟩|⟨x,y,z,r,rfl⟩
  ·simp (disch:=omega) [zz,strs,wK,zH,qW,jD,qV,zC,jL,zS,zL,zR,zW,qY,z7,zZ,Tryz.f90]
  ·simp (disch:=omega) [zz,strs,wK,zH,qW,jD,qV,zC,jL,zS,zL,zR,zW,qY,z7,zZ,Tryz.f90]
  ·simp (disch:=omega) [zz,strs,wK,zH,qW,jD,qV,zC,jL,zS,zL,zR,zW,qY,z7,zZ,Tryz.f90]
  ·simp (disch:=omega) [zz,strs,hr,hr1,hr0,wK,zH,qW,jD,qV,zC,jL,zS,zL,zR,zW,qY,z7,zZ,Tryz.f90]
 by_cases hKeep:w=zS
 ·subst hKeep
  rcases h0 with rfl|⟨x,rfl⟩|⟨x,y,rfl⟩|⟨x,y,z,r,rfl⟩
  ·simp (disch:=omega) [zz,strs,wK,zH,qW,jD,qV,zC,jL,zS,zL,zR,zW,qY,z7,zZ,Tryz.f90]
  ·simp (disch:=omega) [zz,strs,wK,zH,qW,jD,qV,zC,jL,zS,zL,zR,zW,qY,z7,zZ,Tryz.f90]
  ·simp (disch:=omega) [zz,strs,wK,zH,qW,jD,qV,zC,jL,zS,zL,zR,zW,qY,z7,zZ,Tryz.f90]
  ·simp (disch:=omega) [zz,strs,hr,hr1,hr0,wK,zH,qW,jD,qV,zC,jL,zS,zL,zR,zW,qY,z7,zZ,Tryz.f90]
 by_cases hNeed:w=zL
 ·subst hNeed
  rcases h0 with rfl|⟨x,rfl⟩|⟨x,y,rfl⟩|⟨x,y,z,r,rfl⟩
  ·simp (disch:=omega) [zz,strs,wK,zH,qW,jD,qV,zC,jL,zS,zL,zR,zW,qY,z7,zZ,Tryz.f90]
  ·simp (disch:=omega) [zz,strs,wK,zH,qW,jD,qV,zC,jL,zS,zL,zR,zW,qY,z7,zZ,Tryz.f90]
  ·simp (disch:=omega) [zz,strs,wK,zH,qW,jD,qV,zC,jL,zS,zL,zR,zW,qY,z7,zZ,Tryz.f90]
  ·simp (disch:=omega) [zz,strs,hr,hr1,hr0,wK,zH,qW,jD,qV,zC,jL,zS,zL,zR,zW,qY,z7,zZ,Tryz.f90]
 by_cases hSort:w=zR
 ·subst hSort
  rcases h0 with rfl|⟨x,rfl⟩|⟨x,y,rfl⟩|⟨x,y,z,r,rfl⟩
  ·simp (disch:=omega) [zz,strs,wK,zH,qW,jD,qV,zC,jL,zS,zL,zR,zW,qY,z7,zZ,Tryz.f90]
  ·simp (disch:=omega) [zz,strs,wK,zH,qW,jD,qV,zC,jL,zS,zL,zR,zW,qY,z7,zZ,Tryz.f90]
  ·simp (disch:=omega) [zz,strs,wK,zH,qW,jD,qV,zC,jL,zS,zL,zR,zW,qY,z7,zZ,Tryz.f90]
  ·simp (disch:=omega) [zz,strs,hr,hr1,hr0,wK,zH,qW,jD,qV,zC,jL,zS,zL,zR,zW,qY,z7,zZ,Tryz.f90]
 by_cases hUniq:w=zW
 ·subst hUniq
  rcases h0 with rfl|⟨x,rfl⟩|⟨x,y,rfl⟩|⟨x,y,z,r,rfl⟩
  ·simp (disch:=omega) [zz,strs,wK,zH,qW,jD,qV,zC,jL,zS,zL,zR,zW,qY,z7,zZ,Tryz.f90]
  ·simp (disch:=omega) [zz,strs,wK,zH,qW,jD,qV,zC,jL,zS,zL,zR,zW,qY,z7,zZ,Tryz.f90]
  ·simp (disch:=omega) [zz,strs,wK,zH,qW,jD,qV,zC,jL,zS,zL,zR,zW,qY,z7,zZ,Tryz.f90]
  ·simp (disch:=omega) [zz,strs,hr,hr1,hr0,wK,zH,qW,jD,qV,zC,jL,zS,zL,zR,zW,qY,z7,zZ,Tryz.f90]
 by_cases hUpper:w=qY
 ·subst hUpper
  rcases h0 with rfl|⟨x,rfl⟩|⟨x,y,rfl⟩|⟨x,y,z,r,rfl⟩
  ·simp (disch:=omega) [zz,strs,wK,zH,qW,jD,qV,zC,jL,zS,zL,zR,zW,qY,z7,zZ,Tryz.f90]
  ·simp (disch:=omega) [zz,strs,wK,zH,qW,jD,qV,zC,jL,zS,zL,zR,zW,qY,z7,zZ,Tryz.f90]
  ·simp (disch:=omega) [zz,strs,wK,zH,qW,jD,qV,zC,jL,zS,zL,zR,zW,qY,z7,zZ,Tryz.f90]
  ·simp (disch:=omega) [zz,strs,hr,hr1,hr0,wK,zH,qW,jD,qV,zC,jL,zS,zL,zR,zW,qY,z7,zZ,Tryz.f90]
 by_cases hCount:w=z7
 ·subst hCount
  rcases h0 with rfl|⟨x,rfl⟩|⟨x,y,rfl⟩|⟨x,y,z,r,rfl⟩
  ·simp (disch:=omega) [zz,strs,wK,zH,qW,jD,qV,zC,jL,zS,zL,zR,zW,qY,z7,zZ,Tryz.f90]
  ·simp (disch:=omega) [zz,strs,wK,zH,qW,jD,qV,zC,jL,zS,zL,zR,zW,qY,z7,zZ,Tryz.f90]
  ·simp (disch:=omega) [zz,strs,wK,zH,qW,jD,qV,zC,jL,zS,zL,zR,zW,qY,z7,zZ,Tryz.f90]
  ·simp (disch:=omega) [zz,strs,hr,hr1,hr0,wK,zH,qW,jD,qV,zC,jL,zS,zL,zR,zW,qY,z7,zZ,Tryz.f90]
 by_cases hFail:w=zZ
 ·subst hFail
  rcases h0 with rfl|⟨x,rfl⟩|⟨x,y,rfl⟩|⟨x,y,z,r,rfl⟩
  ·simp (disch:=omega) [zz,strs,wK,zH,qW,jD,qV,zC,jL,zS,zL,zR,zW,qY,z7,zZ,Tryz.f90]
  ·simp (disch:=omega) [zz,strs,wK,zH,qW,jD,qV,zC,jL,zS,zL,zR,zW,qY,z7,zZ,Tryz.f90]
  ·simp (disch:=omega) [zz,strs,wK,zH,qW,jD,qV,zC,jL,zS,zL,zR,zW,qY,z7,zZ,Tryz.f90]
  ·simp (disch:=omega) [zz,strs,hr,hr1,hr0,wK,zH,qW,jD,qV,zC,jL,zS,zL,zR,zW,qY,z7,zZ,Tryz.f90]
 have kText:¬w=[116,101,120,116]:=hText
 have kRead:¬w=[114,101,97,100]:=hRead
 have kTry:¬w=[116,114,121]:=hTry
 have kWrite:¬w=[119,114,105,116,101]:=hWrite
 have G0:¬w=[115,99,97,110]:=hScan
 have kEnv:¬w=[101,110,118]:=hEnv
 have kKeep:¬w=[107,101,101,112]:=hKeep
 have kNeed:¬w=[110,101,101,100]:=hNeed
 have kSort:¬w=[115,111,114,116]:=hSort
 have kUniq:¬w=[117,110,105,113]:=hUniq
 have kUpper:¬w=[117,112,112,101,114]:=hUpper
 have kCount:¬w=[99,111,117,110,116]:=hCount
 have kFail:¬w=[102,97,105,108]:=hFail
 have hv:wK w ws=false:=by simp[wK,hText,hRead,hTry,hWrite,hScan,hEnv,hKeep,hNeed,hSort,hUniq,hUpper,hCount,hFail]
 simp (disch:=omega) [zz,strs,kText,kRead,kTry,kWrite,G0,kEnv,kKeep,kNeed,kSort,kUniq,kUpper,kCount,kFail,hv,Tryz.f90]
theorem ziJ:∀(l:List Txt) (i:Nat) (hi:i<l.length),(∀j (hj:j<i),ZO (z6 (l[j]'(by omega)))=true)->ZO (z6 l[i])=false->pY l=some (i+1)
 | [],i,hi,_,_=>by simp at hi
 | s::r,0,hi,_,h=>by
  have h':ZO (z6 s)=false:=h
  rw[pY,if_neg (by rw[h'];decide)]
 | s::r,i+1,hi,hg,h=>by
  have h0:ZO (z6 s)=true:=hg 0 (by omega)
  have hi2:i<r.length:=by simpa using hi
  have ih:=ziJ r i hi2 (fun j hj=>hg (j+1) (by omega)) h
  rw[pY,if_pos h0,ih];rfl
theorem zdo:∀(l:List Txt),(∀j (hj:j<l.length),ZO (z6 l[j])=true)->pY l=none
 | [],_=>rfl
 | s::r,hg=>by
  have h0:ZO (z6 s)=true:=hg 0 (by simp)
  have ih:=zdo r fun j hj=>hg (j+1) (by simpa using hj)
  rw[pY,if_pos h0,ih];rfl
theorem uG:∀(l x:List UInt8),x∈QB l->x.length<=l.length
 | [],x,h=>by simp[QB]at h
 | b::l,x,h=>by
  rw[QB]at h
  split at h
  ·rcases List.mem_cons.1 h with rfl|h
   ·simp
   ·have:=uG l x h;simp only[List.length_cons];omega
  ·split at h
   ·rw[List.mem_singleton.1 h];simp
   ·rename_i y r hy
    rcases List.mem_cons.1 h with rfl|h
    ·have:=uG l y (by rw[hy];simp);simp only[List.length_cons];omega
    ·have:=uG l x (by rw[hy];simp[h]);simp only[List.length_cons];omega
theorem zgK (t:Txt) (ht:t.length<=1000000):PC Tryz.prog 56 [.av .str (.s t)] (.tup [(.int .i64,.i .i64 (uO t).1),(.int .i64,.i .i64 (uO t).2)]):=by
 have hll:=ZW t
 have hlm:∀x∈qZ t,x.length<=1000000:=fun x hx=>by
  rw[zgx]at hx
  have:=uG t x hx
  omega
 have hrl:=zlw t (by omega)
 have hck:uO t=if 65536<t.length\/400<(qZ t).length then((6:Int),(0:Int)) else match pY (qZ t)with
  | some n=>((3:Int),(n:Int))
  | none=>((0:Int),(0:Int)):=rfl
 obtain⟨L,hL⟩:∃L,L=qZ t:=⟨_,rfl⟩
 rw[<-hL]at hll hlm hrl hck
 refine zow Tryz.func56 cf0 fun imm0 w0=>?_
 simp (disch:=omega) [zz]
 refine zcv hrl ?_
 by_cases h1:65536<t.length
 ·have h1':(65536:Int)<t.length:=by omega
  rw[if_pos (.inl h1)]at hck
  simp (disch:=omega) [zz,h1',hck,Tryz.f56]
 have h1':¬(65536:Int)<t.length:=by omega
 by_cases h2:400<L.length
 ·have h2':(400:Int)<L.length:=by omega
  rw[if_pos (.inr h2)]at hck
  simp (disch:=omega) [zz,h1',zV,h2',hck,Tryz.f56]
 have h2':¬(400:Int)<L.length:=by omega
 rw[if_neg (by omega)]at hck
 simp (disch:=omega) [zz,h1',zV,h2']
 refine AT.loop' (α:=Nat) (fun k=>St.of [(4,.av (.slice 9) (.sl .no (strs L))),(5,.av (.int .i64) (.i .i64 k))] [] (fun _=>0) [])
  (fun k=>k<=L.length/\∀j (h:j<L.length),j<k->ZO (z6 L[j])=true) (fun k=>L.length-k) 0 ?_ ?_ ?_
 ·apply Le.of<;>simp[zA,qF,qJ]<;>try omega
 ·exact⟨by omega,fun j h hj=>by omega⟩
 rintro k ⟨hk,hall⟩ KL hN hE
 refine zrd cf0 ?_
 by_cases hlt:k<L.length
 ·have hlt':(k:Int)<L.length:=by omega
  have hg:=Q5 L k hlt
  have hxl:=hlm _ (List.getElem_mem hlt)
  have hba:=ziJ L k hlt fun j hj=>hall j (by omega) hj
  have hgo:∀h:ZO (z6 L[k])=true,∀j (hj:j<L.length),j<k+1->ZO (z6 L[j])=true:=fun h j hj hjk=>by
   rcases Nat.lt_or_ge j k with h'|h'
   ·exact hall j hj h'
   ·obtain rfl:j=k:=by omega
    exact h
  obtain⟨x,hx⟩:∃x,x=L[k]:=⟨_,rfl⟩
  rw[<-hx]at hg hxl hba hgo
  have hwd:=zkP x hxl
  have hwe:∀w∈z6 x,w≠[]/\w.length<=1000000:=fun w hw=>by
   have:=ZZ hw
   exact⟨this.1,by have:=this.2;simp at this;omega⟩
  have hwl:(z6 x).length<=1000001:=Nat.le_trans uB (by omega)
  simp (disch:=omega) [zz,hlt',hg,zV]
  refine zcv hwd ?_
  obtain⟨ws,hws⟩:∃ws,ws=z6 x:=⟨_,rfl⟩
  rw[<-hws]at hwe hwl hba hgo |-
  have hpa:=zhm ws (fun w hw=>(hwe w hw).1) (by omega)
  simp (disch:=omega) [zz]
  refine zcv hpa ?_
  cases hp:xX ws with
  | true =>
   have hgd:ZO ws=true:=by unfold ZO;rw[hp];rfl
   simp (disch:=omega) [zz]
   refine hN _ (k+1) ?_ ⟨by omega,hgo hgd⟩ (by omega)
   apply Le.of<;>simp[zA,qF,qJ]<;>try omega
  | false =>
   cases ws with
   | nil=>cases hp
   | cons w ws =>
    have hcm:=zfe w ws (by simp only[List.length_cons]at hwl;omega) fun y hy=>by have:=(hwe y (by simp[hy])).2;omega
    simp (disch:=omega) [zz]
    refine zcv hcm ?_
    cases hc:wK w ws with
    | true =>
     have hgd:ZO (w::ws)=true:=by unfold ZO;rw[hp];exact hc
     simp (disch:=omega) [zz]
     refine hN _ (k+1) ?_ ⟨by omega,hgo hgd⟩ (by omega)
     apply Le.of<;>simp[zA,qF,qJ]<;>try omega
    | false =>
     have hgd:ZO (w::ws)=false:=by unfold ZO;rw[hp];exact hc
     rw[hba hgd]at hck
     simp only at hck
     simp (disch:=omega) [zz]
     refine hE _ _ (by simp) ?_
     simp (disch:=omega) [zz,hck,Tryz.f56]
 ·have hlt':¬(k:Int)<L.length:=by omega
  rw[zdo L fun j hj=>hall j hj (by omega)]at hck
  simp only at hck
  simp (disch:=omega) [zz,hlt',zV]
  refine hE _ _ (by simp) ?_
  simp (disch:=omega) [zz,hck,Tryz.f56]
theorem zfd (l:List Txt) (x:Txt) (hn:l.length<=1000000000):PC Tryz.prog 58 [.av (.slice 9) (.sl .no (strs l)),.av .str (.s x)] (.av .bool (.b (decide (x∈l)))):=by
 have hsl:=zV l
 refine zow Tryz.func58 cf0 fun imm0 w0=>?_
 simp (disch:=omega) [zz,hsl]
 refine AT.loop' (α:=Nat) (fun k=>St.of [(0,.av (.slice 9) (.sl .no (strs l))),(1,.av .str (.s x)),(7,.av (.int .i64) (.i .i64 l.length)),(8,.av (.int .i64) (.i .i64 k))] [] (fun _=>0) [])
  (fun k=>k<=l.length/\x∉l.take k) (fun k=>l.length-k) 0 ?_ ?_ ?_
 ·apply Le.of<;>simp[zA,qF,qJ]<;>try omega
 ·exact⟨by omega,by simp⟩
 rintro k ⟨hk,hno⟩ KL hN hE
 refine zrd cf0 ?_
 by_cases hlt:k<l.length
 ·have hlt':(k:Int)<l.length:=by omega
  have hg:=Q5 l k hlt
  have hg2:(strs l)[k]'(by rw[hsl];exact hlt)=.s l[k]:=by simp[strs]
  by_cases hx:l[k]=x
  ·have hm:x∈l:=by rw[<-hx];exact List.getElem_mem hlt
   simp (disch:=omega) [zz,hlt',hg,hg2,hx,hsl]
   refine hE _ _ (by simp) ?_
   simp (disch:=omega) [zz,Tryz.f58,hm]
  ·simp (disch:=omega) [zz,hlt',hg,hg2,hx,hsl]
   refine hN _ (k+1) ?_ ⟨by omega,?_⟩ (by omega)
   ·apply Le.of<;>simp[zA,qF,qJ]<;>try omega
   ·rw[List.take_succ_eq_append_getElem hlt,List.mem_append,not_or]
    exact⟨hno,fun h=>hx (List.mem_singleton.1 h).symm⟩
 ·have hlt':¬(k:Int)<l.length:=by omega
  rw[List.take_of_length_le (by omega)]at hno
  simp (disch:=omega) [zz,hlt',hsl]
  refine hE _ _ (by simp) ?_
  simp (disch:=omega) [zz,Tryz.f58,hno]
theorem vN {α:Type} {P:Nat->α->Prop} {l:List α} {k:Nat} {hk:k<l.length} (h0:P k l[k]) (h:∀j (h:j<l.length),j<k->P j l[j]):∀j (h:j<l.length),j<k+1->P j l[j]:=fun j hj h3=>by
 by_cases h4:j=k
 ·subst h4;exact h0
 ·exact h j hj (by omega)
theorem zhd {g:Txt->Bool} {l:List Txt} (h:∀j (hj:j<l.length),j<l.length->g l[j]=true):¬l.any (fun p=>!g p)=true:=by
 simp only[List.any_eq_true,not_exists,not_and]
 intro p hp
 obtain⟨j,hj,rfl⟩:=List.getElem_of_mem hp
 simp[h j hj hj]
theorem zgl (t:Txt):KT t=uO t:=by
 unfold KT
 rcases cG t with⟨cs,h,h2⟩|⟨e,n,h,h2,_⟩
 ·rw[h,h2]
 ·rw[h,h2]
theorem zj5:∀(k:Nat) (L outs:List Txt) (h:k<outs.length),outs[k]∈L++outs.take k->xI L outs=true
 | _,_,[],h,_=>by simp at h
 | 0,L,p::r,_,hm=>by
  unfold xI
  rw[if_pos (by simpa using hm)]
 | k+1,L,p::r,h,hm=>by
  unfold xI
  split
  ·rfl
  ·exact zj5 k (L++[p]) r (by simpa using h) (by simpa using hm)
theorem zd7:∀(L outs:List Txt),(∀k (h:k<outs.length),outs[k]∉L++outs.take k)->xI L outs=false
 | _,[],_=>rfl
 | L,p::r,h=>by
  unfold xI
  have h0:=h 0 (by simp)
  rw[if_neg (by simpa using h0)]
  exact zd7 (L++[p]) r fun k hk=>by
   have:=h (k+1) (by simpa using hk)
   simpa using this
theorem zk0 (a:wD) (ha:zkS a) (L:List Txt) (hL:L.length<=1000000000):PC Tryz.prog 36 [.av zcw (zI a),.av (.slice 9) (.sl .no (strs L))] (.av (.int .i64) (.i .i64 (Y1 a L))):=by
 have hck:=zgK a.tool ha.b.bt
 rw[<-zgl]at hck
 have hso:=zV a.outs
 have hsi:=zV a.ins
 have hsa:=zV a.asks
 have hbo:=ha.b.bo
 have hbi:=ha.b.bi
 have hba:=ha.b.ba
 obtain⟨A,hA⟩:∃A,A=zI a:=⟨_,rfl⟩
 have hAE:A=.agg [.agg [.s a.pkg,.s a.name],.s a.tool,j6 a.env,.sl .no (strs a.ins),.sl .no (strs a.asks),.sl .no (strs a.outs)]:=hA
 obtain⟨V,hV⟩:∃V,V=Y1 a L:=⟨_,rfl⟩
 rw[<-hV,<-hA]
 unfold Y1 at hV
 refine zow Tryz.func36 cf0 fun imm0 w0=>?_
 simp (disch:=omega) [zz,hAE]
 refine zcv hck ?_
 by_cases h1:(KT a.tool).1=0
 rotate_left
 ·rw[if_pos h1]at hV
  simp (disch:=omega) [zz,h1,hV,Tryz.f36]
 rw[if_neg (by simp[h1])]at hV
 by_cases h2:a.outs.length=0
 ·have:a.outs=[]:=List.eq_nil_of_length_eq_zero h2
  rw[if_pos (.inl this)]at hV
  simp (disch:=omega) [zz,h1,hso,this,hV,Tryz.f36]
 have h2e:¬a.outs=[]:=fun e=>h2 (by rw[e];rfl)
 have hAe:A.er=A:=by rw[hA];exact uA a
 simp (disch:=omega) [zz,h1,hso,h2e]
 refine AT.loop' (α:=Nat) (fun k=>St.of [(1,.av (.slice 9) (.sl .no (strs L))),(2,.loc 2 []),(26,.av (.int .i64) (.i .i64 a.outs.length)),(27,.av (.int .i64) (.i .i64 k))] [(2,(zcw,A))] (fun _=>0) [])
  (fun k=>k<=a.outs.length/\∀j (h:j<a.outs.length),j<k->kN a.outs[j] JY=true) (fun k=>a.outs.length-k) 0 ?_ ⟨by omega,fun j _ h=>by omega⟩ ?_
 ·apply Le.of<;>simp[zA,qF,qJ,hAE]<;>try omega
 rintro k ⟨hk,hall⟩ KL hN hE
 refine zrd cf0 ?_
 by_cases hlt:k<a.outs.length
 ·have hlt':(k:Int)<a.outs.length:=by omega
  have hg:=Q5 a.outs k hlt
  have hg2:(strs a.outs)[k]'(by rw[hso];exact hlt)=.s a.outs[k]:=by simp[strs]
  have hpl:=ha.o _ (List.getElem_mem hlt)
  have hun:=D6 JY (by decide) a.outs[k].length a.outs[k] (Nat.le_refl _) (by omega)
  have hbad:kN a.outs[k] JY=false->V=1:=fun h=>by
   rw[hV,if_pos (.inr (.inl (List.any_eq_true.2 ⟨_,List.getElem_mem hlt,by simp[h]⟩)))]
  have hal:kN a.outs[k] JY=true->∀j (h:j<a.outs.length),j<k+1->kN a.outs[j] JY=true:=fun h0=>vN (P:=fun j p=>kN p JY=true) h0 hall
  generalize a.outs[k]=p at *
  rw[show JY=[111,117,116] from rfl]at hun hbad
  simp (disch:=omega) [zz,hlt',hg,hg2,hso,hAE]
  refine qG hun rfl rfl (by simp) (by simp[qM,coC,TV.er,AV.er]) ?_
  cases hu:kN p [111,117,116]with
  | false =>
   simp (disch:=omega) [zz,hu]
   refine hE _ _ (by simp) ?_
   simp (disch:=omega) [zz,hbad hu,Tryz.f36]
  | true =>
   simp (disch:=omega) [zz,hu]
   refine hN _ (k+1) ?_ ⟨by omega,hal hu⟩ (by omega)
   apply Le.of<;>simp[zA,qF,qJ,hAE]<;>try omega
 have hkn:k=a.outs.length:=by omega
 subst hkn
 have hlt':¬(a.outs.length:Int)<a.outs.length:=by omega
 simp (disch:=omega) [zz,hlt']
 refine hE _ _ (by simp) ?_
 clear hN hE
 simp (disch:=omega) [zz,hAE,hsi]
 refine AT.loop' (α:=Nat) (fun k=>St.of [(1,.av (.slice 9) (.sl .no (strs L))),(2,.loc 2 []),(40,.av (.int .i64) (.i .i64 a.ins.length)),(41,.av (.int .i64) (.i .i64 k))] [(2,(zcw,A))] (fun _=>0) [])
  (fun k=>k<=a.ins.length/\∀j (h:j<a.ins.length),j<k->jQ a.ins[j]=true) (fun k=>a.ins.length-k) 0 ?_ ⟨by omega,fun j _ h=>by omega⟩ ?_
 ·apply Le.of<;>simp[zA,qF,qJ,hAE]<;>try omega
 rintro k ⟨hk,hall2⟩ KL hN hE
 refine zrd cf0 ?_
 by_cases hlt:k<a.ins.length
 ·have hlt':(k:Int)<a.ins.length:=by omega
  have hg:=Q5 a.ins k hlt
  have hg2:(strs a.ins)[k]'(by rw[hsi];exact hlt)=.s a.ins[k]:=by simp[strs]
  have hpl:=ha.i _ (List.getElem_mem hlt)
  have hun:=WF a.ins[k] (by omega)
  have hbad:jQ a.ins[k]=false->V=1:=fun h=>by
   rw[hV,if_pos (.inr (.inr (.inl (List.any_eq_true.2 ⟨_,List.getElem_mem hlt,by simp[h]⟩))))]
  have hal:jQ a.ins[k]=true->∀j (h:j<a.ins.length),j<k+1->jQ a.ins[j]=true:=fun h0=>vN (P:=fun j p=>jQ p=true) h0 hall2
  generalize a.ins[k]=p at *
  simp (disch:=omega) [zz,hlt',hg,hg2,hsi,hAE]
  refine qG hun rfl rfl (by simp) (by simp[qM,coC,TV.er,AV.er]) ?_
  cases hu:jQ p with
  | false =>
   simp (disch:=omega) [zz,hu]
   refine hE _ _ (by simp) ?_
   simp (disch:=omega) [zz,hbad hu,Tryz.f36]
  | true =>
   simp (disch:=omega) [zz,hu]
   refine hN _ (k+1) ?_ ⟨by omega,hal hu⟩ (by omega)
   apply Le.of<;>simp[zA,qF,qJ,hAE]<;>try omega
 have hkn:k=a.ins.length:=by omega
 subst hkn
 have hlt':¬(a.ins.length:Int)<a.ins.length:=by omega
 simp (disch:=omega) [zz,hlt']
 refine hE _ _ (by simp) ?_
 clear hN hE
 simp (disch:=omega) [zz,hAE,hsa]
 refine AT.loop' (α:=Nat) (fun k=>St.of [(1,.av (.slice 9) (.sl .no (strs L))),(2,.loc 2 []),(54,.av (.int .i64) (.i .i64 a.asks.length)),(55,.av (.int .i64) (.i .i64 k))] [(2,(zcw,A))] (fun _=>0) [])
  (fun k=>k<=a.asks.length/\∀j (h:j<a.asks.length),j<k->xD a.asks[j]=true) (fun k=>a.asks.length-k) 0 ?_ ⟨by omega,fun j _ h=>by omega⟩ ?_
 ·apply Le.of<;>simp[zA,qF,qJ,hAE]<;>try omega
 rintro k ⟨hk,hall3⟩ KL hN hE
 refine zrd cf0 ?_
 by_cases hlt:k<a.asks.length
 ·have hlt':(k:Int)<a.asks.length:=by omega
  have hg:=Q5 a.asks k hlt
  have hg2:(strs a.asks)[k]'(by rw[hsa];exact hlt)=.s a.asks[k]:=by simp[strs]
  have hpl:=ha.b.bae _ (List.getElem_mem hlt)
  have hun:=znw a.asks[k] (by omega)
  have hbad:xD a.asks[k]=false->V=1:=fun h=>by
   rw[hV,if_pos (.inr (.inr (.inr (List.any_eq_true.2 ⟨_,List.getElem_mem hlt,by simp[h]⟩))))]
  have hal:xD a.asks[k]=true->∀j (h:j<a.asks.length),j<k+1->xD a.asks[j]=true:=fun h0=>vN (P:=fun j p=>xD p=true) h0 hall3
  generalize a.asks[k]=p at *
  simp (disch:=omega) [zz,hlt',hg,hg2,hsa,hAE]
  refine qG hun rfl rfl (by simp) (by simp[qM,coC,TV.er,AV.er]) ?_
  cases hu:xD p with
  | false =>
   simp (disch:=omega) [zz,hu]
   refine hE _ _ (by simp) ?_
   simp (disch:=omega) [zz,hbad hu,Tryz.f36]
  | true =>
   simp (disch:=omega) [zz,hu]
   refine hN _ (k+1) ?_ ⟨by omega,hal hu⟩ (by omega)
   apply Le.of<;>simp[zA,qF,qJ,hAE]<;>try omega
 have hkn:k=a.asks.length:=by omega
 subst hkn
 have hlt':¬(a.asks.length:Int)<a.asks.length:=by omega
 simp (disch:=omega) [zz,hlt']
 refine hE _ _ (by simp) ?_
 clear hN hE
 rw[if_neg]at hV
 rotate_left
 ·simp only[not_or]
  exact⟨h2e,zhd hall,zhd hall2,zhd hall3⟩
 simp (disch:=omega) [zz,hAE,hso]
 refine AT.loop' (α:=Nat) (fun k=>St.of [(1,.av (.slice 9) (.sl .no (strs L))),(2,.loc 2 []),(68,.av (.int .i64) (.i .i64 a.outs.length)),(69,.av (.int .i64) (.i .i64 k))] [(2,(zcw,A))] (fun _=>0) [])
  (fun k=>k<=a.outs.length/\∀j (h:j<a.outs.length),j<k->a.outs[j]∉L++a.outs.take j) (fun k=>a.outs.length-k) 0 ?_ ⟨by omega,fun j _ h=>by omega⟩ ?_
 ·apply Le.of<;>simp[zA,qF,qJ,hAE]<;>try omega
 rintro k ⟨hk,hall4⟩ KL hN hE
 refine zrd cf0 ?_
 by_cases hlt:k<a.outs.length
 ·have hlt':(k:Int)<a.outs.length:=by omega
  have hg:=Q5 a.outs k hlt
  have hg2:(strs a.outs)[k]'(by rw[hso];exact hlt)=.s a.outs[k]:=by simp[strs]
  have hin1:=zfd L a.outs[k] hL
  have hin2:=zfd (a.outs.take k) a.outs[k] (by rw[List.length_take];omega)
  have hdu:=zj5 k L a.outs hlt
  have hal:a.outs[k]∉L++a.outs.take k->∀j (h:j<a.outs.length),j<k+1->a.outs[j]∉L++a.outs.take j:=fun h0=>vN (P:=fun j p=>p∉L++a.outs.take j) h0 hall4
  have hst:strs (a.outs.take k)=(strs a.outs).take k:=by simp[strs]
  rw[hst]at hin2
  generalize a.outs[k]=p at *
  have hsL:AV.ers (strs L)=strs L:=by simp[strs,AV.ers_eq,Function.comp_def,AV.er]
  have hsO:AV.ers ((strs a.outs).take k)=(strs a.outs).take k:=by simp[strs,AV.ers_eq,Function.comp_def,AV.er]
  simp (disch:=omega) [zz,hlt',hg,hg2,hso,hAE]
  (repeat with_reducible refine om ?_)
  refine y9 hin1 rfl rfl (by simp) (by simp[qM,coC,TV.er,AV.er,hsL]) ?_
  by_cases m1:p∈L
  ·rw[hdu (List.mem_append_left _ m1),if_pos rfl]at hV
   simp (disch:=omega) [zz,m1]
   (repeat with_reducible refine om ?_)
   refine hE _ _ (by simp) ?_
   simp (disch:=omega) [zz,hV,Tryz.f36]
  simp (disch:=omega) [zz,m1,hg,hg2,hso,hlt',hAE]
  (repeat with_reducible refine om ?_)
  refine y9 hin2 rfl rfl (by simp) (by simp[qM,coC,TV.er,AV.er,hsO]) ?_
  by_cases m2:p∈a.outs.take k
  ·rw[hdu (List.mem_append_right _ m2),if_pos rfl]at hV
   simp (disch:=omega) [zz,m2]
   (repeat with_reducible refine om ?_)
   refine hE _ _ (by simp) ?_
   simp (disch:=omega) [zz,hV,Tryz.f36]
  ·simp (disch:=omega) [zz,m2]
   (repeat with_reducible refine om ?_)
   refine hN _ (k+1) ?_ ⟨by omega,hal fun h=>(List.mem_append.1 h).elim m1 m2⟩ (by omega)
   apply Le.of<;>simp[zA,qF,qJ,hAE]<;>try omega
 have hkn:k=a.outs.length:=by omega
 subst hkn
 have hlt':¬(a.outs.length:Int)<a.outs.length:=by omega
 rw[if_neg (by rw[zd7 L a.outs fun j hj=>hall4 j hj hj];simp)]at hV
 simp (disch:=omega) [zz,hlt']
 refine hE _ _ (by simp) ?_
 simp (disch:=omega) [zz,hV,Tryz.f36]
theorem zgA {N:Nat}:∀ {l:List wD},(∀a∈l,a.outs.length<=N)->(l.flatMap (·.outs)).length<=l.length*N
 | [],_=>by simp
 | a::l,h=>by
  have h1:=zgA fun b hb=>h b (List.mem_cons_of_mem _ hb)
  have h2:=h a (List.mem_cons_self ..)
  rw[List.flatMap_cons,List.length_append,List.length_cons,Nat.add_mul,Nat.one_mul]
  omega
theorem zfR (l:List wD) (hl:∀a∈l,zkS a) (hn:l.length<=1000000000) :
  PC Tryz.prog 17 [.av (.slice 34) (jC l)] (.tup [(.int .i64,.i .i64 (YS l).1),(.int .i64,.i .i64 ((YS l).2:Nat))]):=by
 obtain⟨V,hV⟩:∃V,V=YS l:=⟨_,rfl⟩
 rw[<-hV]
 unfold YS at hV
 refine zow Tryz.func17 cf0 fun imm0 w0=>?_
 by_cases h5:500<l.length
 ·have h5':(500:Int)<l.length:=by omega
  rw[if_pos h5]at hV
  subst hV
  simp (disch:=omega) [zz,jC,h5',Tryz.f17]
 have h5':¬(500:Int)<l.length:=by omega
 rw[if_neg h5]at hV
 simp (disch:=omega) [zz,jC,h5']
 refine AT.loop' (α:=Nat) (fun k=>St.of [(0,.av (.slice 34) (jC l)),(4,.av (.slice 9) (.sl (tkG 32 k) (strs ((l.take k).flatMap (·.outs))))),(12,.av (.int .i64) (.i .i64 l.length)),(13,.av (.int .i64) (.i .i64 k))] [] (fun j=>if j=32 then k else 0) [])
  (fun k=>k<=l.length/\V=goC k ((l.take k).flatMap (·.outs)) (l.drop k)) (fun k=>l.length-k) 0 ?_ ⟨by omega,by simpa using hV⟩ ?_
 ·have hs0:strs []=[]:=rfl
  apply Le.of<;>simp[zA,qF,qJ,jC,tkG,hs0]<;>try omega
 rintro k ⟨hk,hgo⟩ KL hN hE
 refine zrd cf0 ?_
 by_cases hlt:k<l.length
 ·have hlt':(k:Int)<l.length:=by omega
  have hg:=jY zI l k hlt
  have hac:=hl _ (List.getElem_mem hlt)
  have htk:l.take (k+1)=l.take k++[l[k]]:=List.take_succ_eq_append_getElem hlt
  have hbk:((l.take k).flatMap (·.outs)).length<=500000000:=by
   have h1:=zgA (l:=l.take k) (N:=1000000) fun a ha=>(hl a (List.mem_of_mem_take ha)).b.bo
   have h2:(l.take k).length*1000000<=500*1000000:=Nat.mul_le_mul_right _ (by rw[List.length_take];omega)
   omega
  rw[List.drop_eq_getElem_cons hlt]at hgo
  obtain⟨a,ha⟩:∃a,a=l[k]:=⟨_,rfl⟩
  rw[<-ha]at hg hac htk hgo
  obtain⟨L,hL⟩:∃L,L=(l.take k).flatMap (·.outs):=⟨_,rfl⟩
  have hL2:(l.take (k+1)).flatMap (·.outs)=L++a.outs:=by rw[htk,hL];simp
  rw[<-hL]at hgo hbk |-
  have hae:=uA a
  have hlk:=zk0 a hac L (by omega)
  have hsL:AV.ers (strs L)=strs L:=by simp[strs,AV.ers_eq,Function.comp_def,AV.er]
  have hsl:=zV L
  have hso:=zV a.outs
  have hbo:=hac.b.bo
  have hst:strs (L++a.outs)=strs L++strs a.outs:=by simp[strs]
  obtain⟨X,hX⟩:∃X,X=zI a:=⟨_,rfl⟩
  have hXE:X=.agg [.agg [.s a.pkg,.s a.name],.s a.tool,j6 a.env,.sl .no (strs a.ins),.sl .no (strs a.asks),.sl .no (strs a.outs)]:=hX
  rw[<-hX]at hg hae hlk
  simp (disch:=omega) [zz,hlt',hg,jC]
  (repeat with_reducible refine om ?_)
  refine qG hlk rfl rfl (by simp) (by simp[qM,TV.er,AV.er,hae,hsL]) ?_
  unfold goC at hgo
  by_cases h0:Y1 a L=0
  ·rw[if_pos h0]at hgo
   simp (disch:=omega) [zz,h0,hlt',hg,jC,hXE]
   (repeat with_reducible refine om ?_)
   refine KX (by simp) (by simp[hsl,hso];omega) (by simp[hsl,hso];omega) (by simp) (by simp) ?_
   simp (disch:=omega) [zz]
   refine hN _ (k+1) ?_ ⟨by omega,by rw[hL2];exact hgo⟩ (by omega)
   rw[hL2,hst]
   apply Le.of<;>simp[zA,qF,qJ,jC]<;>try omega
   all_goals (intro j;by_cases hj:j=32<;>simp[hj])
  ·rw[if_neg h0]at hgo
   simp (disch:=omega) [zz,h0]
   (repeat with_reducible refine om ?_)
   refine hE _ _ (by simp) ?_
   simp (disch:=omega) [zz,Tryz.f17,hgo]
 ·have hlt':¬(k:Int)<l.length:=by omega
  rw[List.drop_of_length_le (by omega)]at hgo
  simp (disch:=omega) [zz,hlt',jC]
  refine hE _ _ (by simp) ?_
  simp (disch:=omega) [zz,Tryz.f17,hgo,goC]
theorem WN (w:qQ) (hw:WkC w):PC Tryz.prog 8 [.av Q7 (j7 w)] (.av (.int .i64) (.i .i64 (QP w))):=by
 have hf:=zh5 w.files (fun f hf=>by have:=hw.f f hf;omega) hw.fn
 have ha:=zfR w.acts hw.a hw.an
 have hea:=ZY w.acts
 have hef:=jJ w.files
 have hwn:=hw.wn
 have hsl:=zV w.wants
 obtain⟨W,hW⟩:∃W,W=j7 w:=⟨_,rfl⟩
 have hWE:W=.agg [qH w.files,jC w.acts,.sl .no (strs w.wants),.b w.keep]:=hW
 obtain⟨V,hV⟩:∃V,V=QP w:=⟨_,rfl⟩
 rw[<-hV,<-hW]
 unfold QP at hV
 refine zow Tryz.func8 cf0 fun imm0 w0=>?_
 simp (disch:=omega) [zz,hWE]
 refine qG hf rfl rfl (by simp) (by simp[qM,TV.er,AV.er,hef]) ?_
 by_cases h1:YE w.files=0
 rotate_left
 ·rw[if_pos h1]at hV
  simp (disch:=omega) [zz,h1,Tryz.f8,hV]
 rw[if_neg (by simp[h1])]at hV
 simp (disch:=omega) [zz,h1,hWE]
 refine qG ha rfl rfl (by simp) (by simp[qM,TV.er,AV.er,hea]) ?_
 by_cases h2:(YS w.acts).1=0
 rotate_left
 ·rw[if_pos h2]at hV
  simp (disch:=omega) [zz,h2,Tryz.f8,hV]
 rw[if_neg (by simp[h2])]at hV
 by_cases h3:1000<w.wants.length
 ·have h3':(1000:Int)<w.wants.length:=by omega
  rw[if_pos h3]at hV
  simp (disch:=omega) [zz,h2,hWE,hsl,h3',Tryz.f8,hV]
 have h3':¬(1000:Int)<w.wants.length:=by omega
 rw[if_neg h3]at hV
 simp (disch:=omega) [zz,h2,hWE,hsl,h3']
 refine AT.loop' (α:=Nat) (fun k=>St.of [(1,.loc 1 []),(26,.av (.int .i64) (.i .i64 w.wants.length)),(27,.av (.int .i64) (.i .i64 k))] [(1,(Q7,W))] (fun _=>0) [])
  (fun k=>k<=w.wants.length/\∀j (h:j<w.wants.length),j<k->jQ w.wants[j]=true) (fun k=>w.wants.length-k) 0 ?_ ⟨by omega,fun j _ h=>by omega⟩ ?_
 ·apply Le.of<;>simp[zA,qF,qJ,hWE]<;>try omega
 rintro k ⟨hk,hall⟩ KL hN hE
 refine zrd cf0 ?_
 by_cases hlt:k<w.wants.length
 ·have hlt':(k:Int)<w.wants.length:=by omega
  have hg:=Q5 w.wants k hlt
  have hg2:(strs w.wants)[k]'(by rw[hsl];exact hlt)=.s w.wants[k]:=by simp[strs]
  have hpl:=hw.p _ (List.getElem_mem hlt)
  have hun:=WF w.wants[k] (by omega)
  have hbad:jQ w.wants[k]=false->V=1:=fun h=>by
   rw[hV,if_neg]
   intro h4
   rw[List.all_eq_true]at h4
   have:=h4 _ (List.getElem_mem hlt)
   rw[h]at this;cases this
  have hal:jQ w.wants[k]=true->∀j (h:j<w.wants.length),j<k+1->jQ w.wants[j]=true:=fun h0=>vN (P:=fun j p=>jQ p=true) h0 hall
  generalize w.wants[k]=p at *
  simp (disch:=omega) [zz,hlt',hg,hg2,hsl,hWE]
  refine qG hun rfl rfl (by simp) (by simp[qM,coC,TV.er,AV.er]) ?_
  cases hu:jQ p with
  | false =>
   simp (disch:=omega) [zz,hu]
   refine hE _ _ (by simp) ?_
   simp (disch:=omega) [zz,hbad hu,Tryz.f8]
  | true =>
   simp (disch:=omega) [zz,hu]
   refine hN _ (k+1) ?_ ⟨by omega,hal hu⟩ (by omega)
   apply Le.of<;>simp[zA,qF,qJ,hWE]<;>try omega
 have hkn:k=w.wants.length:=by omega
 subst hkn
 have hlt':¬(w.wants.length:Int)<w.wants.length:=by omega
 rw[if_pos]at hV
 rotate_left
 ·rw[List.all_eq_true]
  intro p hp
  obtain⟨j,hj,rfl⟩:=List.getElem_of_mem hp
  exact hall j hj hj
 simp (disch:=omega) [zz,hlt']
 refine hE _ _ (by simp) ?_
 simp (disch:=omega) [zz,hV,Tryz.f8]
end
end Go.Proofs.YtfkcpballfhddaaGreatDoor
