/- The reference's test of a part. No condition beyond each theorem's own. -/
import Derived.Test.YtooipdkilgpojaaGreatDoorP8ToJK0
import Derived.Test.YtooipdkilgpojaaGreatDoorQ0ToK5
set_option linter.unusedSimpArgs false
set_option linter.unusedVariables false
set_option linter.unusedSectionVars false
section
set_option maxRecDepth 100000
namespace Go.Proofs.YtooipdkilgpojaaGreatDoor
open Go Go.Ab
open Classical
variable [Sel]
set_option maxHeartbeats 16000000 in
theorem zcA (l:List UInt8) (hl:l.length≤9223372036854775807):PC Tryz.prog 116 [.av .str (.s l)] (.av .bool (.b (Q0 l))):=by
 refine zow Tryz.func116 cf0 fun imm0 w0=>?_
 by_cases h1:l=[]
 ·simp (disch:=omega) [zz,h1,Tryz.f116,Q0]
 by_cases h2:l=[46]
 ·simp (disch:=omega) [zz,h2,Tryz.f116,Q0]
 by_cases h3:l=[46,46]
 ·simp (disch:=omega) [zz,h3,Tryz.f116,Q0]
 by_cases h4:l.length≤64
 ·have h4':¬(64:Int)<l.length:=by omega
  simp (disch:=omega) [zz,h1,h2,h3,h4']
  have hpv:Q0 l=l.all fun b=>jD b.toNat:=by simp[Q0,h1,h2,h3,h4]
  refine AT.loop' (α:=Nat) (fun k=>St.of [(0,.av .str (.s l)),(3,.av (.int .i64) (.i .i64 k))] [] (fun _=>0) []) (fun k=>k≤l.length∧((l.take k).all fun b=>jD b.toNat)=true) (fun k=>l.length-k) 0 ?_ ?_ ?_
  ·apply Le.of<;>simp[qU,qG,qO,qH,qP,qK,qF,qI,qJ,qN,zX]<;>try omega
  ·simp
  rintro k ⟨hk,hall⟩ KL hN hE
  refine qM (cf:=cf0) laid mixed _ _ _ (by kernel_rfl) ?_
  by_cases hlt:k<l.length
  ·have hlt':(k:Int)<l.length:=by omega
   obtain⟨n,hn⟩:∃n:Nat,l[k].toNat=n:=⟨_,rfl⟩
   have hn255:n≤255:=by have:=l[k].toNat_lt;omega
   have hbad:jD l[k].toNat=false→Q0 l=false:=by
    intro h
    rw[hpv,List.all_eq_false]
    exact⟨l[k],List.getElem_mem _,by simp[h]⟩
   rcases(by omega:(0≤n∧n≤42)∨n=43∨n=44∨n=45∨n=46∨n=47∨(48≤n∧n≤57)∨(58≤n∧n≤64)∨(65≤n∧n≤90)∨(91≤n∧n≤94)∨n=95∨n=96∨(97≤n∧n≤122)∨(123≤n∧n≤255))with hc|hc|hc|hc|hc|hc|hc|hc|hc|hc|hc|hc|hc|hc
   ·have g97:¬((97:Int)≤n):=by omega
    have g65:¬((65:Int)≤n):=by omega
    have g48:¬((48:Int)≤n):=by omega
    have l122:((n:Int)≤122):=by omega
    have l90:((n:Int)≤90):=by omega
    have l57:((n:Int)≤57):=by omega
    have e95:¬((n:Int)=95):=by omega
    have e46:¬((n:Int)=46):=by omega
    have e45:¬((n:Int)=45):=by omega
    have e43:¬((n:Int)=43):=by omega
    have hs:jD n=false:=by unfold jD;simp;omega
    simp (disch:=omega) [zz,hlt',hn,g97,g65,g48,l122,l90,l57,e95,e46,e45,e43,hs]
    (repeat with_reducible refine om ?_)
    refine hE _ _ (by simp) ?_
    simp (disch:=omega) [zz,Tryz.f116]
    exact hbad (by rw[hn];exact hs)
   ·subst hc
    have hs:jD 43=true:=by decide
    simp (disch:=omega) [zz,hlt',hn,hs]
    (repeat with_reducible refine om ?_)
    refine hN _ (k+1) ?_ ⟨by omega,by rw[List.take_succ_eq_append_getElem hlt,List.all_append,hall];simp[hn,hs]⟩ (by omega)
    apply Le.of<;>simp[qU,qG,qO,qH,qP,qK,qF,qI,qJ,qN,zX]<;>try omega
   ·have g97:¬((97:Int)≤n):=by omega
    have g65:¬((65:Int)≤n):=by omega
    have g48:¬((48:Int)≤n):=by omega
    have l122:((n:Int)≤122):=by omega
    have l90:((n:Int)≤90):=by omega
    have l57:((n:Int)≤57):=by omega
    have e95:¬((n:Int)=95):=by omega
    have e46:¬((n:Int)=46):=by omega
    have e45:¬((n:Int)=45):=by omega
    have e43:¬((n:Int)=43):=by omega
    have hs:jD n=false:=by unfold jD;simp;omega
    simp (disch:=omega) [zz,hlt',hn,g97,g65,g48,l122,l90,l57,e95,e46,e45,e43,hs]
    (repeat with_reducible refine om ?_)
    refine hE _ _ (by simp) ?_
    simp (disch:=omega) [zz,Tryz.f116]
    exact hbad (by rw[hn];exact hs)
   ·subst hc
    have hs:jD 45=true:=by decide
    simp (disch:=omega) [zz,hlt',hn,hs]
    (repeat with_reducible refine om ?_)
    refine hN _ (k+1) ?_ ⟨by omega,by rw[List.take_succ_eq_append_getElem hlt,List.all_append,hall];simp[hn,hs]⟩ (by omega)
    apply Le.of<;>simp[qU,qG,qO,qH,qP,qK,qF,qI,qJ,qN,zX]<;>try omega
   ·subst hc
    have hs:jD 46=true:=by decide
    simp (disch:=omega) [zz,hlt',hn,hs]
    (repeat with_reducible refine om ?_)
    refine hN _ (k+1) ?_ ⟨by omega,by rw[List.take_succ_eq_append_getElem hlt,List.all_append,hall];simp[hn,hs]⟩ (by omega)
    apply Le.of<;>simp[qU,qG,qO,qH,qP,qK,qF,qI,qJ,qN,zX]<;>try omega
   ·have g97:¬((97:Int)≤n):=by omega
    have g65:¬((65:Int)≤n):=by omega
    have g48:¬((48:Int)≤n):=by omega
    have l122:((n:Int)≤122):=by omega
    have l90:((n:Int)≤90):=by omega
    have l57:((n:Int)≤57):=by omega
    have e95:¬((n:Int)=95):=by omega
    have e46:¬((n:Int)=46):=by omega
    have e45:¬((n:Int)=45):=by omega
    have e43:¬((n:Int)=43):=by omega
    have hs:jD n=false:=by unfold jD;simp;omega
    simp (disch:=omega) [zz,hlt',hn,g97,g65,g48,l122,l90,l57,e95,e46,e45,e43,hs]
    (repeat with_reducible refine om ?_)
    refine hE _ _ (by simp) ?_
    simp (disch:=omega) [zz,Tryz.f116]
    exact hbad (by rw[hn];exact hs)
   ·have g97:¬((97:Int)≤n):=by omega
    have g65:¬((65:Int)≤n):=by omega
    have g48:((48:Int)≤n):=by omega
    have l122:((n:Int)≤122):=by omega
    have l90:((n:Int)≤90):=by omega
    have l57:((n:Int)≤57):=by omega
    have e95:¬((n:Int)=95):=by omega
    have e46:¬((n:Int)=46):=by omega
    have e45:¬((n:Int)=45):=by omega
    have e43:¬((n:Int)=43):=by omega
    have hs:jD n=true:=by unfold jD;simp;omega
    simp (disch:=omega) [zz,hlt',hn,g97,g65,g48,l122,l90,l57,e95,e46,e45,e43,hs]
    (repeat with_reducible refine om ?_)
    refine hN _ (k+1) ?_ ⟨by omega,by rw[List.take_succ_eq_append_getElem hlt,List.all_append,hall];simp[hn,hs]⟩ (by omega)
    apply Le.of<;>simp[qU,qG,qO,qH,qP,qK,qF,qI,qJ,qN,zX]<;>try omega
   ·have g97:¬((97:Int)≤n):=by omega
    have g65:¬((65:Int)≤n):=by omega
    have g48:((48:Int)≤n):=by omega
    have l122:((n:Int)≤122):=by omega
    have l90:((n:Int)≤90):=by omega
    have l57:¬((n:Int)≤57):=by omega
    have e95:¬((n:Int)=95):=by omega
    have e46:¬((n:Int)=46):=by omega
    have e45:¬((n:Int)=45):=by omega
    have e43:¬((n:Int)=43):=by omega
    have hs:jD n=false:=by unfold jD;simp;omega
    simp (disch:=omega) [zz,hlt',hn,g97,g65,g48,l122,l90,l57,e95,e46,e45,e43,hs]
    (repeat with_reducible refine om ?_)
    refine hE _ _ (by simp) ?_
    simp (disch:=omega) [zz,Tryz.f116]
    exact hbad (by rw[hn];exact hs)
   ·have g97:¬((97:Int)≤n):=by omega
    have g65:((65:Int)≤n):=by omega
    have g48:((48:Int)≤n):=by omega
    have l122:((n:Int)≤122):=by omega
    have l90:((n:Int)≤90):=by omega
    have l57:¬((n:Int)≤57):=by omega
    have e95:¬((n:Int)=95):=by omega
    have e46:¬((n:Int)=46):=by omega
    have e45:¬((n:Int)=45):=by omega
    have e43:¬((n:Int)=43):=by omega
    have hs:jD n=true:=by unfold jD;simp;omega
    simp (disch:=omega) [zz,hlt',hn,g97,g65,g48,l122,l90,l57,e95,e46,e45,e43,hs]
    (repeat with_reducible refine om ?_)
    refine hN _ (k+1) ?_ ⟨by omega,by rw[List.take_succ_eq_append_getElem hlt,List.all_append,hall];simp[hn,hs]⟩ (by omega)
    apply Le.of<;>simp[qU,qG,qO,qH,qP,qK,qF,qI,qJ,qN,zX]<;>try omega
   ·have g97:¬((97:Int)≤n):=by omega
    have g65:((65:Int)≤n):=by omega
    have g48:((48:Int)≤n):=by omega
    have l122:((n:Int)≤122):=by omega
    have l90:¬((n:Int)≤90):=by omega
    have l57:¬((n:Int)≤57):=by omega
    have e95:¬((n:Int)=95):=by omega
    have e46:¬((n:Int)=46):=by omega
    have e45:¬((n:Int)=45):=by omega
    have e43:¬((n:Int)=43):=by omega
    have hs:jD n=false:=by unfold jD;simp;omega
    simp (disch:=omega) [zz,hlt',hn,g97,g65,g48,l122,l90,l57,e95,e46,e45,e43,hs]
    (repeat with_reducible refine om ?_)
    refine hE _ _ (by simp) ?_
    simp (disch:=omega) [zz,Tryz.f116]
    exact hbad (by rw[hn];exact hs)
   ·subst hc
    have hs:jD 95=true:=by decide
    simp (disch:=omega) [zz,hlt',hn,hs]
    (repeat with_reducible refine om ?_)
    refine hN _ (k+1) ?_ ⟨by omega,by rw[List.take_succ_eq_append_getElem hlt,List.all_append,hall];simp[hn,hs]⟩ (by omega)
    apply Le.of<;>simp[qU,qG,qO,qH,qP,qK,qF,qI,qJ,qN,zX]<;>try omega
   ·have g97:¬((97:Int)≤n):=by omega
    have g65:((65:Int)≤n):=by omega
    have g48:((48:Int)≤n):=by omega
    have l122:((n:Int)≤122):=by omega
    have l90:¬((n:Int)≤90):=by omega
    have l57:¬((n:Int)≤57):=by omega
    have e95:¬((n:Int)=95):=by omega
    have e46:¬((n:Int)=46):=by omega
    have e45:¬((n:Int)=45):=by omega
    have e43:¬((n:Int)=43):=by omega
    have hs:jD n=false:=by unfold jD;simp;omega
    simp (disch:=omega) [zz,hlt',hn,g97,g65,g48,l122,l90,l57,e95,e46,e45,e43,hs]
    (repeat with_reducible refine om ?_)
    refine hE _ _ (by simp) ?_
    simp (disch:=omega) [zz,Tryz.f116]
    exact hbad (by rw[hn];exact hs)
   ·have g97:((97:Int)≤n):=by omega
    have g65:((65:Int)≤n):=by omega
    have g48:((48:Int)≤n):=by omega
    have l122:((n:Int)≤122):=by omega
    have l90:¬((n:Int)≤90):=by omega
    have l57:¬((n:Int)≤57):=by omega
    have e95:¬((n:Int)=95):=by omega
    have e46:¬((n:Int)=46):=by omega
    have e45:¬((n:Int)=45):=by omega
    have e43:¬((n:Int)=43):=by omega
    have hs:jD n=true:=by unfold jD;simp;omega
    simp (disch:=omega) [zz,hlt',hn,g97,g65,g48,l122,l90,l57,e95,e46,e45,e43,hs]
    (repeat with_reducible refine om ?_)
    refine hN _ (k+1) ?_ ⟨by omega,by rw[List.take_succ_eq_append_getElem hlt,List.all_append,hall];simp[hn,hs]⟩ (by omega)
    apply Le.of<;>simp[qU,qG,qO,qH,qP,qK,qF,qI,qJ,qN,zX]<;>try omega
   ·have g97:((97:Int)≤n):=by omega
    have g65:((65:Int)≤n):=by omega
    have g48:((48:Int)≤n):=by omega
    have l122:¬((n:Int)≤122):=by omega
    have l90:¬((n:Int)≤90):=by omega
    have l57:¬((n:Int)≤57):=by omega
    have e95:¬((n:Int)=95):=by omega
    have e46:¬((n:Int)=46):=by omega
    have e45:¬((n:Int)=45):=by omega
    have e43:¬((n:Int)=43):=by omega
    have hs:jD n=false:=by unfold jD;simp;omega
    simp (disch:=omega) [zz,hlt',hn,g97,g65,g48,l122,l90,l57,e95,e46,e45,e43,hs]
    (repeat with_reducible refine om ?_)
    refine hE _ _ (by simp) ?_
    simp (disch:=omega) [zz,Tryz.f116]
    exact hbad (by rw[hn];exact hs)
  ·have hlt':¬(k:Int)<l.length:=by omega
   simp (disch:=omega) [zz,hlt']
   refine hE _ _ (by simp) ?_
   rw[List.take_of_length_le (by omega)]at hall
   simp (disch:=omega) [zz,Tryz.f116,hpv,hall]
 ·have h4':(64:Int)<l.length:=by omega
  simp (disch:=omega) [zz,h1,h2,h3,h4',Tryz.f116,Q0,h4]
end Go.Proofs.YtooipdkilgpojaaGreatDoor
end
section
set_option maxRecDepth 100000
namespace Go.Proofs.YtooipdkilgpojaaGreatDoor
open Go Go.Ab
open Classical
variable [Sel]
theorem PH:∀(x:List UInt8),(47:UInt8)∉x→qT 47 x=[x]
 | [],_=>rfl
 | b::l,h=>by
  simp only[List.mem_cons,not_or]at h
  rw[qT,if_neg (fun e=>h.1 e.symm),PH l h.2]
end Go.Proofs.YtooipdkilgpojaaGreatDoor
end
section
set_option maxRecDepth 100000
namespace Go.Proofs.YtooipdkilgpojaaGreatDoor
open Go Go.Ab
open Classical
variable [Sel] [SelPow] [SelMax]
@[simp] theorem znD:qZ Tryz.prog 86=true:=by kernel_rfl
@[simp] theorem zrq:z8 Tryz.prog (.func 86)=false:=q9 znD
@[simp] theorem zAA:qZ Tryz.prog 81=true:=by kernel_rfl
@[simp] theorem zBq:z8 Tryz.prog (.func 81)=false:=q9 zAA
@[simp] theorem zon:qZ Tryz.prog 80=true:=by kernel_rfl
@[simp] theorem zs7:z8 Tryz.prog (.func 80)=false:=q9 zon
@[simp] theorem znS:qZ Tryz.prog 79=true:=by kernel_rfl
@[simp] theorem zrJ:z8 Tryz.prog (.func 79)=false:=q9 znS
@[simp] theorem zEm:qZ Tryz.prog 83=true:=by kernel_rfl
@[simp] theorem zEP:z8 Tryz.prog (.func 83)=false:=q9 zEm
@[simp] theorem zof:qZ Tryz.prog 44=true:=by kernel_rfl
@[simp] theorem zsk:z8 Tryz.prog (.func 44)=false:=q9 zof
@[simp] theorem znA:qZ Tryz.prog 45=true:=by kernel_rfl
@[simp] theorem zrT:z8 Tryz.prog (.func 45)=false:=q9 znA
@[simp] theorem zo6:qZ Tryz.prog 89=true:=by kernel_rfl
@[simp] theorem zrM:z8 Tryz.prog (.func 89)=false:=q9 zo6
@[simp] theorem zke:qZ Tryz.prog 131=true:=by kernel_rfl
@[simp] theorem zqO:z8 Tryz.prog (.func 131)=false:=q9 zke
@[simp] theorem zoA:qZ Tryz.prog 14=true:=by kernel_rfl
@[simp] theorem zrs:z8 Tryz.prog (.func 14)=false:=q9 zoA
@[simp] theorem zoB:qZ Tryz.prog 15=true:=by kernel_rfl
@[simp] theorem zrV:z8 Tryz.prog (.func 15)=false:=q9 zoB
@[simp] theorem zoD:qZ Tryz.prog 16=true:=by kernel_rfl
@[simp] theorem zrv:z8 Tryz.prog (.func 16)=false:=q9 zoD
def jG (d:DoV):AV:=.agg [.i .i64 d.kind,.s d.path,.s d.data,.i .i64 d.why]
def zH (k:KnV):AV:=.agg [.s k.path,.b k.is,.s k.data]
def zK (c:CmdV):AV:=.agg [.sl .no (strs c.words),.s c.rest]
def Z7 (x:Txt × Txt):AV:=.agg [.s x.1,.s x.2]
def zS (l:List (Txt × Txt)):AV:=.sl .no (l.map Z7)
abbrev kQ:TyD:=.struct [105,24,9,104,9,4,53]
abbrev QE:TyD:=.struct [25,9]
abbrev YR:TyD:=.map 9 4
def knE (l:List KnV):List (AV × AV):=l.map fun k=>(.s k.path,zH k)
def QY (l:List Txt):List (AV × AV):=l.map fun p=>(.s p,.b true)
noncomputable def qW (ta ea:AV) (buf:Txt) (K:Nat) (asks:Txt) (waits:Bool) (over:DoV):HObj:=.var kQ (.agg [ta,ea,.s buf,.map (some K),.s asks,.b waits,jG over])
theorem ZA {ta ea:AV} {buf:Txt} {K:Nat} {asks:Txt} {waits:Bool} {over:DoV} (h1:ta.erk=ta) (h2:ea.erk=ea):(qW ta ea buf K asks waits over).er=qW ta ea buf K asks waits over:=by
 simp[qW,HObj.er_var,AV.erk,AV.erks,h1,h2,jG]
theorem zg8 (R:Nat) (e:Int) (ta ea:AV) (buf:Txt) (K:Nat) (asks:Txt) (waits:Bool) (over:DoV) (h1:ta.erk=ta) (h2:ea.erk=ea) :
  q7 Tryz.prog 86 [.av .ptr (.ptr R kQ []),.av (.int .i64) (.i .i64 e)] [(R,qW ta ea buf K asks waits over)] fun r H'=>r=.tup []∧H'=[(R,qW ta ea buf K asks waits ⟨4,[],[],e⟩)]:=by
 refine zov Tryz.func86 cf0 fun imm0 w0=>?_
 simp (disch:=omega) [zz,qW]
 simp (disch:=omega) [zz,Tryz.f86,h1,h2,jG]
theorem ziH (R:Nat) (s:Txt) (ta ea:AV) (buf:Txt) (K:Nat) (asks:Txt) (waits:Bool) (over:DoV) (h1:ta.erk=ta) (h2:ea.erk=ea) (hb:buf.length≤1000000000) (hs:s.length≤1000000000000000) :
  q7 Tryz.prog 81 [.av .ptr (.ptr R kQ []),.av .str (.s s)] [(R,qW ta ea buf K asks waits over)] fun r H'=>r=.tup []∧H'=[(R,if 65536<buf.length+s.length then qW ta ea buf K asks waits ⟨4,[],[],6⟩ else qW ta ea (buf++s) K asks waits over)]:=by
 refine zov Tryz.func81 cf0 fun imm0 w0=>?_
 by_cases h:65536<buf.length+s.length
 ·have h':(65536:Int)<(buf.length:Int)+s.length:=by omega
  simp (disch:=omega) [zz,qW,h']
  refine qE (R:=fun r H'=>r=.tup []∧H'=[(R,qW ta ea buf K asks waits ⟨4,[],[],6⟩)]) [(R,qW ta ea buf K asks waits over)] [] (by simp[qW]) rfl (by simp[qQ]) (by simp) ?_ ?_
  ·have:=zg8 R 6 ta ea buf K asks waits over h1 h2
   have he:=ZA (buf:=buf) (K:=K) (asks:=asks) (waits:=waits) (over:=over) h1 h2
   simp only[q8.er_cons,q8.er_nil,he]
   exact q7.args this (by simp[qS,coC,TV.er,AV.er])
  rintro r H' ⟨rfl,rfl⟩ _
  refine⟨_,by simpa using HSub.refl _,?_⟩
  have he:=ZA (buf:=buf) (K:=K) (asks:=asks) (waits:=waits) (over:=(⟨4,[],[],6⟩:DoV)) h1 h2
  simp (disch:=omega) [zz,Tryz.f81,he,h]
  rfl
 ·have h':¬(65536:Int)<(buf.length:Int)+s.length:=by omega
  simp (disch:=omega) [zz,qW,h',h]
  refine⟨by omega,?_⟩
  simp (disch:=omega) [zz,Tryz.f81,h1,h2,jG,h]
noncomputable def zA (R:Nat):HObj:=.var .ptr (.ptr R kQ [])
abbrev zry:Cfg:=⟨fun n=>n==2||n==3,fun _=>false⟩
theorem zdh (R:Nat) (tv:AV) (ht:tv.er=tv) (ht2:tv.erk=tv) :
  q7 Tryz.prog 80 [.av .ptr (.ptr R kQ []),.av .func tv] [] fun r H'=>∃br bt,r=.av .func (.fn 127 [.ptr br .ptr [],.ptr bt .func []])∧H'=[(bt,.var .func tv),(br,zA R)]:=by
 refine zov Tryz.func80 zry fun imm0 w0=>?_
 simp (disch:=omega) [zz]
 intro br bt hb
 simp (disch:=omega) [zz,Tryz.f80,ht,ht2,zA]
 exact⟨br,bt,⟨rfl,rfl⟩,rfl,rfl⟩
end Go.Proofs.YtooipdkilgpojaaGreatDoor
end
