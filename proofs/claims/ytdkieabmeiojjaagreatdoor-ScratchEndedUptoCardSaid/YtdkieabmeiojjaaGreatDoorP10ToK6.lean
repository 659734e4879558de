/- The reference's test of a part. No condition. -/
import Derived.Test.YtdkieabmeiojjaaGreatDoorQ0ToK5
set_option linter.unusedSimpArgs false
set_option linter.unusedVariables false
set_option linter.unusedSectionVars false
set_option maxHeartbeats 64000000
set_option maxRecDepth 100000
namespace Go.Proofs.YtdkieabmeiojjaaGreatDoor
open Go Go.Ab
open Classical
section
variable [Sel]
theorem zs4 (l:List UInt8) (hl:l.length<=9223372036854775807):PC Tryz.prog 45 [.av .str (.s l)] (.av .bool (.b (XC l))):=by
 refine zow Tryz.func45 cf0 fun imm0 w0=>?_
 by_cases h1:l=[]
 ·simp (disch:=omega) [zz,h1,Tryz.f45,XC]
 by_cases h2:l=[46]
 ·simp (disch:=omega) [zz,h2,Tryz.f45,XC]
 by_cases h3:l=[46,46]
 ·simp (disch:=omega) [zz,h3,Tryz.f45,XC]
 by_cases h4:l.length<=64
 ·have h4':¬(64:Int)<l.length:=by omega
  simp (disch:=omega) [zz,h1,h2,h3,h4']
  have hpv:XC l=l.all fun b=>yH b.toNat:=by simp[XC,h1,h2,h3,h4]
  refine AT.loop' (α:=Nat) (fun k=>St.of [(0,.av .str (.s l)),(3,.av (.int .i64) (.i .i64 k))] [] (fun _=>0) []) (fun k=>k<=l.length/\((l.take k).all fun b=>yH b.toNat)=true) (fun k=>l.length-k) 0 ?_ ?_ ?_
  ·apply Le.of<;>simp[le9,z6]<;>try omega
  ·simp
  rintro k ⟨hk,hall⟩ KL hN hE
  refine zrd cf0 ?_
  by_cases hlt:k<l.length
  ·have hlt':(k:Int)<l.length:=by omega
   obtain⟨n,hn⟩:∃n:Nat,l[k].toNat=n:=⟨_,rfl⟩
   have hn255:n<=255:=by have:=l[k].toNat_lt;omega
   have hbad:yH l[k].toNat=false->XC l=false:=by
    intro h
    rw[hpv,List.all_eq_false]
    exact⟨l[k],List.getElem_mem _,by simp[h]⟩
   rcases(by omega:(0<=n/\n<=42)\/n=43\/n=44\/n=45\/n=46\/n=47\/(48<=n/\n<=57)\/(58<=n/\n<=64)\/(65<=n/\n<=90)\/(91<=n/\n<=94)\/n=95\/n=96\/(97<=n/\n<=122)\/(123<=n/\n<=255))with hc|hc|hc|hc|hc|hc|hc|hc|hc|hc|hc|hc|hc|hc
   ·have g97:¬((97:Int)<=n):=by omega
    have g65:¬((65:Int)<=n):=by omega
    have g48:¬((48:Int)<=n):=by omega
    have l122:((n:Int)<=122):=by omega
    have l90:((n:Int)<=90):=by omega
    have l57:((n:Int)<=57):=by omega
    have e95:¬((n:Int)=95):=by omega
    have e46:¬((n:Int)=46):=by omega
    have e45:¬((n:Int)=45):=by omega
    have e43:¬((n:Int)=43):=by omega
    have hs:yH n=false:=by unfold yH;simp;omega
    simp (disch:=omega) [zz,hlt',hn,g97,g65,g48,l122,l90,l57,e95,e46,e45,e43,hs]
    (repeat with_reducible refine om ?_)
    refine hE _ _ (by simp) ?_
    simp (disch:=omega) [zz,Tryz.f45]
    exact hbad (by rw[hn];exact hs)
   ·subst hc
    have hs:yH 43=true:=by decide
    simp (disch:=omega) [zz,hlt',hn,hs]
    (repeat with_reducible refine om ?_)
    refine hN _ (k+1) ?_ ⟨by omega,by rw[List.take_succ_eq_append_getElem hlt,List.all_append,hall];simp[hn,hs]⟩ (by omega)
    apply Le.of<;>simp[le9,z6]<;>try omega
   ·have g97:¬((97:Int)<=n):=by omega
    have g65:¬((65:Int)<=n):=by omega
    have g48:¬((48:Int)<=n):=by omega
    have l122:((n:Int)<=122):=by omega
    have l90:((n:Int)<=90):=by omega
    have l57:((n:Int)<=57):=by omega
    have e95:¬((n:Int)=95):=by omega
    have e46:¬((n:Int)=46):=by omega
    have e45:¬((n:Int)=45):=by omega
    have e43:¬((n:Int)=43):=by omega
    have hs:yH n=false:=by unfold yH;simp;omega
    simp (disch:=omega) [zz,hlt',hn,g97,g65,g48,l122,l90,l57,e95,e46,e45,e43,hs]
    (repeat with_reducible refine om ?_)
    refine hE _ _ (by simp) ?_
    simp (disch:=omega) [zz,Tryz.f45]
    exact hbad (by rw[hn];exact hs)
   ·subst hc
    have hs:yH 45=true:=by decide
    simp (disch:=omega) [zz,hlt',hn,hs]
    (repeat with_reducible refine om ?_)
    refine hN _ (k+1) ?_ ⟨by omega,by rw[List.take_succ_eq_append_getElem hlt,List.all_append,hall];simp[hn,hs]⟩ (by omega)
    apply Le.of<;>simp[le9,z6]<;>try omega
   ·subst hc
    have hs:yH 46=true:=by decide
    simp (disch:=omega) [zz,hlt',hn,hs]
    (repeat with_reducible refine om ?_)
    refine hN _ (k+1) ?_ ⟨by omega,by rw[List.take_succ_eq_append_getElem hlt,List.all_append,hall];simp[hn,hs]⟩ (by omega)
    apply Le.of<;>simp[le9,z6]<;>try omega
   ·have g97:¬((97:Int)<=n):=by omega
    have g65:¬((65:Int)<=n):=by omega
    have g48:¬((48:Int)<=n):=by omega
    have l122:((n:Int)<=122):=by omega
    have l90:((n:Int)<=90):=by omega
    have l57:((n:Int)<=57):=by omega
    have e95:¬((n:Int)=95):=by omega
    have e46:¬((n:Int)=46):=by omega
    have e45:¬((n:Int)=45):=by omega
    have e43:¬((n:Int)=43):=by omega
    have hs:yH n=false:=by unfold yH;simp;omega
    simp (disch:=omega) [zz,hlt',hn,g97,g65,g48,l122,l90,l57,e95,e46,e45,e43,hs]
    (repeat with_reducible refine om ?_)
    refine hE _ _ (by simp) ?_
    simp (disch:=omega) [zz,Tryz.f45]
    exact hbad (by rw[hn];exact hs)
   ·have g97:¬((97:Int)<=n):=by omega
    have g65:¬((65:Int)<=n):=by omega
    have g48:((48:Int)<=n):=by omega
    have l122:((n:Int)<=122):=by omega
    have l90:((n:Int)<=90):=by omega
    have l57:((n:Int)<=57):=by omega
    have e95:¬((n:Int)=95):=by omega
    have e46:¬((n:Int)=46):=by omega
    have e45:¬((n:Int)=45):=by omega
    have e43:¬((n:Int)=43):=by omega
    have hs:yH n=true:=by unfold yH;simp;omega
    simp (disch:=omega) [zz,hlt',hn,g97,g65,g48,l122,l90,l57,e95,e46,e45,e43,hs]
    (repeat with_reducible refine om ?_)
    refine hN _ (k+1) ?_ ⟨by omega,by rw[List.take_succ_eq_append_getElem hlt,List.all_append,hall];simp[hn,hs]⟩ (by omega)
    apply Le.of<;>simp[le9,z6]<;>try omega
   ·have g97:¬((97:Int)<=n):=by omega
    have g65:¬((65:Int)<=n):=by omega
    have g48:((48:Int)<=n):=by omega
    have l122:((n:Int)<=122):=by omega
    have l90:((n:Int)<=90):=by omega
    have l57:¬((n:Int)<=57):=by omega
    have e95:¬((n:Int)=95):=by omega
    have e46:¬((n:Int)=46):=by omega
    have e45:¬((n:Int)=45):=by omega
    have e43:¬((n:Int)=43):=by omega
    have hs:yH n=false:=by unfold yH;simp;omega
    simp (disch:=omega) [zz,hlt',hn,g97,g65,g48,l122,l90,l57,e95,e46,e45,e43,hs]
    (repeat with_reducible refine om ?_)
    refine hE _ _ (by simp) ?_
    simp (disch:=omega) [zz,Tryz.f45]
    exact hbad (by rw[hn];exact hs)
   ·have g97:¬((97:Int)<=n):=by omega
    have g65:((65:Int)<=n):=by omega
    have g48:((48:Int)<=n):=by omega
    have l122:((n:Int)<=122):=by omega
    have l90:((n:Int)<=90):=by omega
    have l57:¬((n:Int)<=57):=by omega
    have e95:¬((n:Int)=95):=by omega
    have e46:¬((n:Int)=46):=by omega
    have e45:¬((n:Int)=45):=by omega
    have e43:¬((n:Int)=43):=by omega
    have hs:yH n=true:=by unfold yH;simp;omega
    simp (disch:=omega) [zz,hlt',hn,g97,g65,g48,l122,l90,l57,e95,e46,e45,e43,hs]
    (repeat with_reducible refine om ?_)
    refine hN _ (k+1) ?_ ⟨by omega,by rw[List.take_succ_eq_append_getElem hlt,List.all_append,hall];simp[hn,hs]⟩ (by omega)
    apply Le.of<;>simp[le9,z6]<;>try omega
   ·have g97:¬((97:Int)<=n):=by omega
    have g65:((65:Int)<=n):=by omega
    have g48:((48:Int)<=n):=by omega
    have l122:((n:Int)<=122):=by omega
    have l90:¬((n:Int)<=90):=by omega
    have l57:¬((n:Int)<=57):=by omega
    have e95:¬((n:Int)=95):=by omega
    have e46:¬((n:Int)=46):=by omega
    have e45:¬((n:Int)=45):=by omega
    have e43:¬((n:Int)=43):=by omega
    have hs:yH n=false:=by unfold yH;simp;omega
    simp (disch:=omega) [zz,hlt',hn,g97,g65,g48,l122,l90,l57,e95,e46,e45,e43,hs]
    (repeat with_reducible refine om ?_)
    refine hE _ _ (by simp) ?_
    simp (disch:=omega) [zz,Tryz.f45]
    exact hbad (by rw[hn];exact hs)
   ·subst hc
    have hs:yH 95=true:=by decide
    simp (disch:=omega) [zz,hlt',hn,hs]
    (repeat with_reducible refine om ?_)
    refine hN _ (k+1) ?_ ⟨by omega,by rw[List.take_succ_eq_append_getElem hlt,List.all_append,hall];simp[hn,hs]⟩ (by omega)
    apply Le.of<;>simp[le9,z6]<;>try omega
   ·have g97:¬((97:Int)<=n):=by omega
    have g65:((65:Int)<=n):=by omega
    have g48:((48:Int)<=n):=by omega
    have l122:((n:Int)<=122):=by omega
    have l90:¬((n:Int)<=90):=by omega
    have l57:¬((n:Int)<=57):=by omega
    have e95:¬((n:Int)=95):=by omega
    have e46:¬((n:Int)=46):=by omega
    have e45:¬((n:Int)=45):=by omega
    have e43:¬((n:Int)=43):=by omega
    have hs:yH n=false:=by unfold yH;simp;omega
    simp (disch:=omega) [zz,hlt',hn,g97,g65,g48,l122,l90,l57,e95,e46,e45,e43,hs]
    (repeat with_reducible refine om ?_)
    refine hE _ _ (by simp) ?_
    simp (disch:=omega) [zz,Tryz.f45]
    exact hbad (by rw[hn];exact hs)
   ·have g97:((97:Int)<=n):=by omega
    have g65:((65:Int)<=n):=by omega
    have g48:((48:Int)<=n):=by omega
    have l122:((n:Int)<=122):=by omega
    have l90:¬((n:Int)<=90):=by omega
    have l57:¬((n:Int)<=57):=by omega
    have e95:¬((n:Int)=95):=by omega
    have e46:¬((n:Int)=46):=by omega
    have e45:¬((n:Int)=45):=by omega
    have e43:¬((n:Int)=43):=by omega
    have hs:yH n=true:=by unfold yH;simp;omega
    simp (disch:=omega) [zz,hlt',hn,g97,g65,g48,l122,l90,l57,e95,e46,e45,e43,hs]
    (repeat with_reducible refine om ?_)
    refine hN _ (k+1) ?_ ⟨by omega,by rw[List.take_succ_eq_append_getElem hlt,List.all_append,hall];simp[hn,hs]⟩ (by omega)
    apply Le.of<;>simp[le9,z6]<;>try omega
   ·have g97:((97:Int)<=n):=by omega
    have g65:((65:Int)<=n):=by omega
    have g48:((48:Int)<=n):=by omega
    have l122:¬((n:Int)<=122):=by omega
    have l90:¬((n:Int)<=90):=by omega
    have l57:¬((n:Int)<=57):=by omega
    have e95:¬((n:Int)=95):=by omega
    have e46:¬((n:Int)=46):=by omega
    have e45:¬((n:Int)=45):=by omega
    have e43:¬((n:Int)=43):=by omega
    have hs:yH n=false:=by unfold yH;simp;omega
    simp (disch:=omega) [zz,hlt',hn,g97,g65,g48,l122,l90,l57,e95,e46,e45,e43,hs]
    (repeat with_reducible refine om ?_)
    refine hE _ _ (by simp) ?_
    simp (disch:=omega) [zz,Tryz.f45]
    exact hbad (by rw[hn];exact hs)
  ·have hlt':¬(k:Int)<l.length:=by omega
   simp (disch:=omega) [zz,hlt']
   refine hE _ _ (by simp) ?_
   rw[List.take_of_length_le (by omega)]at hall
   simp (disch:=omega) [zz,Tryz.f45,hpv,hall]
 ·have h4':(64:Int)<l.length:=by omega
  simp (disch:=omega) [zz,h1,h2,h3,h4',Tryz.f45,XC,h4]
def zqO:List (List UInt8)->List UInt8
 | []=>[]
 | [x]=>x
 | x::y::r=>x++47::zqO (y::r)
theorem zr2:∀(p q:List (List UInt8)),p≠[]->q≠[]->zqO (p++q)=zqO p++47::zqO q
 | [],q,h,_=>absurd rfl h
 | [x],[],_,h=>absurd rfl h
 | [x],y::r,_,_=>rfl
 | x::y::r,q,_,hq=>by
  have:=zr2 (y::r) q (by simp) hq
  show x++47::zqO (y::r++q)=_
  rw[this];simp[zqO]
theorem zqT:∀l,zqO (qK 47 l)=l
 | []=>rfl
 | b::l=>by
  have ih:=zqT l
  unfold qK
  split
  ·rename_i hb;subst hb
   cases hs:qK 47 l with
   | nil=>exact absurd hs (xG _ _)
   | cons x r=>rw[hs]at ih;simp[zqO,ih]
  ·cases hs:qK 47 l with
   | nil=>exact absurd hs (xG _ _)
   | cons x r =>
    rw[hs]at ih
    cases r with
    | nil=>simp only[zqO]at ih |-;rw[ih]
    | cons z q=>simp only[zqO]at ih |-;rw[<-ih];rfl
theorem zqP:∀(l x:List UInt8),x∈qK 47 l->(47:UInt8)∉x
 | [],x,h=>by simp_all[qK]
 | b::l,x,h=>by
  unfold qK at h
  split at h
  ·rcases List.mem_cons.1 h with rfl|h
   ·simp
   ·exact zqP l x h
  ·rename_i hb
   cases hs:qK 47 l with
   | nil=>grind
   | cons y r =>
    rw[hs]at h
    rcases List.mem_cons.1 h with rfl|h
    ·have:=zqP l y (by rw[hs];simp)
     grind
    ·exact zqP l x (by rw[hs];simp[h])
theorem DO:∀(x:List UInt8),(47:UInt8)∉x->qK 47 x=[x]
 | [],_=>rfl
 | b::l,h=>by
  simp only[List.mem_cons,not_or]at h
  rw[qK,if_neg (fun e=>h.1 e.symm),DO l h.2]
theorem zr5:∀(a b:List UInt8),qK 47 (a++47::b)=qK 47 a++qK 47 b
 | [],b=>by simp[qK]
 | x::a,b=>by
  have ih:=zr5 a b
  simp only[List.cons_append,qK]
  split
  ·rw[ih];simp
  ·rw[ih]
   cases hs:qK 47 a with
   | nil=>exact absurd hs (xG _ _)
   | cons y r=>simp
theorem zri:∀(p:List (List UInt8)),p≠[]->(∀x∈p,(47:UInt8)∉x)->qK 47 (zqO p)=p
 | [],h,_=>absurd rfl h
 | [x],_,h=>DO x (h x (by simp))
 | x::y::r,_,h=>by
  show qK 47 (x++47::zqO (y::r))=_
  rw[zr5,DO x (h x (by simp)),zri (y::r) (by simp) (fun z hz=>h z (by simp[hz]))]
  rfl
def zqY (l:List UInt8):List UInt8:=if w5 l=true/\(qK 47 l).length≠1 then zqO (qK 47 l).dropLast else []
theorem zrT (l:List UInt8):w5 l=true<->(qK 47 l).length<=16/\∀x∈qK 47 l,XC x=true:=by simp[w5]
theorem zs9 {l:List UInt8} (hm:w5 l=true) (h1:(qK 47 l).length≠1):∃x,l=zqY l++47::x/\(47:UInt8)∉x/\w5 (zqY l)=true/\zqY l≠[]:=by
 have hne:=xG 47 l
 have hdl:(qK 47 l).dropLast≠[]:=by
  intro h
  have:=congrArg List.length h
  grind [List.length_pos_iff]
 have hd:zqY l=zqO (qK 47 l).dropLast:=by simp_all[zqY]
 have hmem:∀x∈(qK 47 l).dropLast,x∈qK 47 l:=fun x hx=>(List.dropLast_sublist _).subset hx
 have hsp:qK 47 (zqY l)=(qK 47 l).dropLast:=by
  grind [zri,zqP]
 rw[zrT]at hm
 refine⟨(qK 47 l).getLast hne,?_,zqP l _ (List.getLast_mem hne),?_,?_⟩
 ·rw[hd]
  have:=zr2 (qK 47 l).dropLast [(qK 47 l).getLast hne] hdl (by simp)
  rw[List.dropLast_concat_getLast hne,zqT]at this
  exact this
 ·grind [zrT]
 ·intro h0
  rw[h0]at hsp
  simp only[qK]at hsp
  have:=hm.2 [] (hmem [] (by grind))
  simp_all[XC]
theorem zsR {u x d:List UInt8} (hx:(47:UInt8)∉x):KG (u++47::x) (d++[47])=(decide (u=d)||KG u (d++[47])):=by
 rw[Bool.eq_iff_iff]
 simp only[KG,decide_eq_true_eq,Bool.or_eq_true,List.length_append,List.length_singleton]
 have key:∀l:List UInt8,l.take (d.length+1)=d++[47]<->l.take d.length=d/\l[d.length]?=some 47:=by
  intro l
  constructor
  ·intro h
   have hlen:=congrArg List.length h
   simp at hlen
   constructor
   ·have:=congrArg (List.take d.length) h
    grind
   ·have:=congrArg (·[d.length]?) h
    grind
  simp_all[List.getElem?_eq_some_iff,List.take_succ_eq_append_getElem]
 grind
theorem zta {l d:List UInt8} (hm:w5 l=true) (hp:KG l (d++[47])=true):w5 d=true:=by
 simp only[KG,decide_eq_true_eq]at hp
 have hl:l=d++47::l.drop (d++[47]).length:=by
  grind [List.take_append_drop]
 rw[zrT]at hm |-
 rw[hl,zr5]at hm
 refine⟨by grind,fun x hx=>hm.2 x (by simp[hx])⟩
theorem zs1 {l d:List UInt8} (hm:w5 l=true) (hd:d≠[]):Z8 l d=(decide (zqY l≠[])&&(decide (zqY l=d)||Z8 (zqY l) d)):=by
 have hu:∀l,w5 l=true->Z8 l d=KG l (d++[47]):=by
  intro l hm
  simp only[Z8,hm,hd,decide_false,Bool.true_and,Bool.false_or]
  grind [zta]
 rw[hu l hm]
 by_cases h1:(qK 47 l).length=1
 ·have hd0:zqY l=[]:=by simp[zqY,h1]
  rw[hd0]
  simp only[ne_eq,not_true_eq_false,decide_false,Bool.false_and]
  have h47:(47:UInt8)∉l:=by
   cases hs:qK 47 l with
   | nil=>simp_all
   | cons x r =>
    rw[hs]at h1
    obtain rfl:r=[]:=List.eq_nil_of_length_eq_zero (by simp_all)
    have h3:=zqT l
    rw[hs]at h3
    rw[<-h3]
    exact zqP l x (by rw[hs];simp)
  cases hp:KG l (d++[47])with
  | false=>rfl
  | true =>
   exfalso
   simp only[KG,decide_eq_true_eq]at hp
   grind [List.mem_of_mem_take]
 ·obtain⟨x,hl,hx,hm2,hne⟩:=zs9 hm h1
  rw[hu _ hm2]
  simp only[hne,ne_eq,not_false_eq_true,decide_true,Bool.true_and]
  grind [zsR]
theorem zt2 {l:List UInt8} (hne:zqY l≠[]):(zqY l).length<l.length:=by
 by_cases hm:w5 l=true
 ·by_cases h1:(qK 47 l).length=1
  ·simp_all[zqY]
  ·obtain⟨x,hl,_⟩:=zs9 hm h1
   grind
 simp_all[zqY]
end
section
variable [Sel] [SelPow] [SelMax]
def jA (d:DoV):AV:=.agg [.i .i64 d.kind,.s d.path,.s d.data,.i .i64 d.why]
def jD (k:KnV):AV:=.agg [.s k.path,.b k.is,.s k.data]
def zE (c:CmdV):AV:=.agg [.sl .no (strs c.words),.s c.rest]
def x4 (x:Txt × Txt):AV:=.agg [.s x.1,.s x.2]
def zO (l:List (Txt × Txt)):AV:=.sl .no (l.map x4)
abbrev kO:TyD:=.struct [165,47,9,164,9,4,167]
abbrev QQ:TyD:=.struct [35,9]
abbrev xL:TyD:=.map 9 4
def knE (l:List KnV):List (AV × AV):=l.map fun k=>(.s k.path,jD k)
def X8 (l:List Txt):List (AV × AV):=l.map fun p=>(.s p,.b true)
noncomputable def qJ (ta ea:AV) (buf:Txt) (K:Nat) (asks:Txt) (waits:Bool) (over:DoV):HObj:=.var kO (.agg [ta,ea,.s buf,.map (some K),.s asks,.b waits,jA over])
theorem ZM {ta ea:AV} {buf:Txt} {K:Nat} {asks:Txt} {waits:Bool} {over:DoV} (h1:ta.erk=ta) (h2:ea.erk=ea):(qJ ta ea buf K asks waits over).er=qJ ta ea buf K asks waits over:=by
 simp[qJ,HObj.er_var,AV.erk,AV.erks,h1,h2,jA]
theorem zh1 (R:Nat) (e:Int) (ta ea:AV) (buf:Txt) (K:Nat) (asks:Txt) (waits:Bool) (over:DoV) (h1:ta.erk=ta) (h2:ea.erk=ea) :
  q7 Tryz.prog 150 [.av .ptr (.ptr R kO []),.av (.int .i64) (.i .i64 e)] [(R,qJ ta ea buf K asks waits over)] fun r H'=>r=.tup []/\H'=[(R,qJ ta ea buf K asks waits ⟨4,[],[],e⟩)]:=by
 refine zov Tryz.func150 cf0 fun imm0 w0=>?_
 simp (disch:=omega) [zz,qJ]
 simp (disch:=omega) [zz,Tryz.f150,h1,h2,jA]
theorem zjh (R:Nat) (s:Txt) (ta ea:AV) (buf:Txt) (K:Nat) (asks:Txt) (waits:Bool) (over:DoV) (h1:ta.erk=ta) (h2:ea.erk=ea) (hb:buf.length<=1000000000) (hs:s.length<=1000000000000000) :
  q7 Tryz.prog 145 [.av .ptr (.ptr R kO []),.av .str (.s s)] [(R,qJ ta ea buf K asks waits over)] fun r H'=>r=.tup []/\H'=[(R,if 65536<buf.length+s.length then qJ ta ea buf K asks waits ⟨4,[],[],6⟩ else qJ ta ea (buf++s) K asks waits over)]:=by
 refine zov Tryz.func145 cf0 fun imm0 w0=>?_
 by_cases h:65536<buf.length+s.length
 ·have h':(65536:Int)<(buf.length:Int)+s.length:=by omega
  simp (disch:=omega) [zz,qJ,h']
  refine qD (R:=fun r H'=>r=.tup []/\H'=[(R,qJ ta ea buf K asks waits ⟨4,[],[],6⟩)]) [(R,qJ ta ea buf K asks waits over)] [] (by simp[qJ]) rfl (by simp[qE]) (by simp) ?_ ?_
  ·have:=zh1 R 6 ta ea buf K asks waits over h1 h2
   have he:=ZM (buf:=buf) (K:=K) (asks:=asks) (waits:=waits) (over:=over) h1 h2
   simp only[q8.er_cons,q8.er_nil,he]
   exact q7.args this (by simp[qR,coC,TV.er,AV.er])
  rintro r H' ⟨rfl,rfl⟩ _
  refine⟨_,by simpa using HSub.refl _,?_⟩
  have he:=ZM (buf:=buf) (K:=K) (asks:=asks) (waits:=waits) (over:=(⟨4,[],[],6⟩:DoV)) h1 h2
  simp (disch:=omega) [zz,Tryz.f145,he,h]
  rfl
 ·have h':¬(65536:Int)<(buf.length:Int)+s.length:=by omega
  simp (disch:=omega) [zz,qJ,h',h]
  refine⟨by omega,?_⟩
  simp (disch:=omega) [zz,Tryz.f145,h1,h2,jA,h]
noncomputable def qV (R:Nat):HObj:=.var .ptr (.ptr R kO [])
abbrev zqg:Cfg:=⟨fun n=>n==2||n==3,fun _=>false⟩
theorem zem (R:Nat) (tv:AV) (ht:tv.er=tv) (ht2:tv.erk=tv) :
  q7 Tryz.prog 144 [.av .ptr (.ptr R kO []),.av .func tv] [] fun r H'=>∃br bt,r=.av .func (.fn 172 [.ptr br .ptr [],.ptr bt .func []])/\H'=[(bt,.var .func tv),(br,qV R)]:=by
 refine zov Tryz.func144 zqg fun imm0 w0=>?_
 simp (disch:=omega) [zz]
 intro br bt hb
 simp (disch:=omega) [zz,Tryz.f144,ht,ht2,qV]
 exact⟨br,bt,⟨rfl,rfl⟩,rfl,rfl⟩
end
end Go.Proofs.YtdkieabmeiojjaaGreatDoor
