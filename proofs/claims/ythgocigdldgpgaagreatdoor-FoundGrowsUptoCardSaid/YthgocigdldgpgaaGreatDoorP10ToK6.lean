/- The reference's test of a part. No condition beyond each theorem's own. -/
import Derived.Test.YthgocigdldgpgaaGreatDoorP8ToJK0
import Derived.Test.YthgocigdldgpgaaGreatDoorQ0ToK5
set_option linter.unusedSimpArgs false
set_option linter.unusedVariables false
set_option linter.unusedSectionVars false
section
set_option maxRecDepth 100000
namespace Go.Proofs.YthgocigdldgpgaaGreatDoor
open Go Go.Ab
open Classical
variable [Sel]
set_option maxHeartbeats 16000000 in
theorem zcA (l:List UInt8) (hl:l.length≤9223372036854775807):PC Tryz.prog 117 [.av .str (.s l)] (.av .bool (.b (Q0 l))):=by
 refine PC.of <| q7.of_vc laid mixed Tryz.func117 rfl cf0 (by kernel_rfl) (by simp[Tryz.ntmps117]) fun imm0 w0=>?_
 by_cases h1:l=[]
 ·(simp (disch:=first|omega|assumption) [zz,h1,Tryz.f117,Q0])
 by_cases h2:l=[46]
 ·(simp (disch:=first|omega|assumption) [zz,h2,Tryz.f117,Q0])
 by_cases h3:l=[46,46]
 ·(simp (disch:=first|omega|assumption) [zz,h3,Tryz.f117,Q0])
 by_cases h4:l.length≤64
 ·have h4':¬(64:Int)<l.length:=by omega
  (simp (disch:=first|omega|assumption) [zz,h1,h2,h3,h4'])
  have hpv:Q0 l=l.all fun b=>jD b.toNat:=by simp[Q0,h1,h2,h3,h4]
  refine AT.loop' (α:=Nat) (fun k=>St.of [(0,.av .str (.s l)),(3,.av (.int .i64) (.i .i64 k))] [] (fun _=>0) []) (fun k=>k≤l.length∧((l.take k).all fun b=>jD b.toNat)=true) (fun k=>l.length-k) 0 ?_ ?_ ?_
  ·refine Le.of ?_ ?_ ?_ ?_ ?_<;>simp[qU,qG,qO,qH,qP,qK,qF,qI,qJ,qN,zX]<;>try omega
  ·simp
  rintro k ⟨hk,hall⟩ KL hN hE
  refine qM (cf:=cf0) laid mixed _ _ _ (by kernel_rfl) ?_
  by_cases hlt:k<l.length
  ·have hlt':(k:Int)<l.length:=by omega
   obtain⟨n,hn⟩:∃n:Nat,l[k].toNat=n:=⟨_,rfl⟩
   have hn255:n≤255:=by have:=l[k].toNat_lt;omega
   have hbad:jD l[k].toNat=false→Q0 l=false:=by
    intro h
    rw[hpv,List.all_eq_false]
    exact⟨l[k],List.getElem_mem _,by simp[h]⟩
   rcases(by omega:(0≤n∧n≤42)∨n=43∨n=44∨n=45∨n=46∨n=47∨(48≤n∧n≤57)∨(58≤n∧n≤64)∨(65≤n∧n≤90)∨(91≤n∧n≤94)∨n=95∨n=96∨(97≤n∧n≤122)∨(123≤n∧n≤255))with hc|hc|hc|hc|hc|hc|hc|hc|hc|hc|hc|hc|hc|hc
   ·have g97:¬((97:Int)≤n):=by omega
    have g65:¬((65:Int)≤n):=by omega
    have g48:¬((48:Int)≤n):=by omega
    have l122:((n:Int)≤122):=by omega
    have l90:((n:Int)≤90):=by omega
    have l57:((n:Int)≤57):=by omega
    have e95:¬((n:Int)=95):=by omega
    have e46:¬((n:Int)=46):=by omega
    have e45:¬((n:Int)=45):=by omega
    have e43:¬((n:Int)=43):=by omega
    have hs:jD n=false:=by unfold jD;simp;omega
    (simp (disch:=first|omega|assumption) [zz,hlt',hn,g97,g65,g48,l122,l90,l57,e95,e46,e45,e43,hs])
    (repeat with_reducible refine om ?_)
    refine hE _ _ (by simp) ?_
    (simp (disch:=first|omega|assumption) [zz,Tryz.f117])
    exact hbad (by rw[hn];exact hs)
   ·subst hc
    have hs:jD 43=true:=by decide
    (simp (disch:=first|omega|assumption) [zz,hlt',hn,hs])
    (repeat with_reducible refine om ?_)
    refine hN _ (k+1) ?_ ⟨by omega,by rw[List.take_succ_eq_append_getElem hlt,List.all_append,hall];simp[hn,hs]⟩ (by omega)
    refine Le.of ?_ ?_ ?_ ?_ ?_<;>simp[qU,qG,qO,qH,qP,qK,qF,qI,qJ,qN,zX]<;>try omega
   ·have g97:¬((97:Int)≤n):=by omega
    have g65:¬((65:Int)≤n):=by omega
    have g48:¬((48:Int)≤n):=by omega
    have l122:((n:Int)≤122):=by omega
    have l90:((n:Int)≤90):=by omega
    have l57:((n:Int)≤57):=by omega
    have e95:¬((n:Int)=95):=by omega
    have e46:¬((n:Int)=46):=by omega
    have e45:¬((n:Int)=45):=by omega
    have e43:¬((n:Int)=43):=by omega
    have hs:jD n=false:=by unfold jD;simp;omega
    (simp (disch:=first|omega|assumption) [zz,hlt',hn,g97,g65,g48,l122,l90,l57,e95,e46,e45,e43,hs])
    (repeat with_reducible refine om ?_)
    refine hE _ _ (by simp) ?_
    (simp (disch:=first|omega|assumption) [zz,Tryz.f117])
    exact hbad (by rw[hn];exact hs)
   ·subst hc
    have hs:jD 45=true:=by decide
    (simp (disch:=first|omega|assumption) [zz,hlt',hn,hs])
    (repeat with_reducible refine om ?_)
    refine hN _ (k+1) ?_ ⟨by omega,by rw[List.take_succ_eq_append_getElem hlt,List.all_append,hall];simp[hn,hs]⟩ (by omega)
    refine Le.of ?_ ?_ ?_ ?_ ?_<;>simp[qU,qG,qO,qH,qP,qK,qF,qI,qJ,qN,zX]<;>try omega
   ·subst hc
    have hs:jD 46=true:=by decide
    (simp (disch:=first|omega|assumption) [zz,hlt',hn,hs])
    (repeat with_reducible refine om ?_)
    refine hN _ (k+1) ?_ ⟨by omega,by rw[List.take_succ_eq_append_getElem hlt,List.all_append,hall];simp[hn,hs]⟩ (by omega)
    refine Le.of ?_ ?_ ?_ ?_ ?_<;>simp[qU,qG,qO,qH,qP,qK,qF,qI,qJ,qN,zX]<;>try omega
   ·have g97:¬((97:Int)≤n):=by omega
    have g65:¬((65:Int)≤n):=by omega
    have g48:¬((48:Int)≤n):=by omega
    have l122:((n:Int)≤122):=by omega
    have l90:((n:Int)≤90):=by omega
    have l57:((n:Int)≤57):=by omega
    have e95:¬((n:Int)=95):=by omega
    have e46:¬((n:Int)=46):=by omega
    have e45:¬((n:Int)=45):=by omega
    have e43:¬((n:Int)=43):=by omega
    have hs:jD n=false:=by unfold jD;simp;omega
    (simp (disch:=first|omega|assumption) [zz,hlt',hn,g97,g65,g48,l122,l90,l57,e95,e46,e45,e43,hs])
    (repeat with_reducible refine om ?_)
    refine hE _ _ (by simp) ?_
    (simp (disch:=first|omega|assumption) [zz,Tryz.f117])
    exact hbad (by rw[hn];exact hs)
   ·have g97:¬((97:Int)≤n):=by omega
    have g65:¬((65:Int)≤n):=by omega
    have g48:((48:Int)≤n):=by omega
    have l122:((n:Int)≤122):=by omega
    have l90:((n:Int)≤90):=by omega
    have l57:((n:Int)≤57):=by omega
    have e95:¬((n:Int)=95):=by omega
    have e46:¬((n:Int)=46):=by omega
    have e45:¬((n:Int)=45):=by omega
    have e43:¬((n:Int)=43):=by omega
    have hs:jD n=true:=by unfold jD;simp;omega
    (simp (disch:=first|omega|assumption) [zz,hlt',hn,g97,g65,g48,l122,l90,l57,e95,e46,e45,e43,hs])
    (repeat with_reducible refine om ?_)
    refine hN _ (k+1) ?_ ⟨by omega,by rw[List.take_succ_eq_append_getElem hlt,List.all_append,hall];simp[hn,hs]⟩ (by omega)
    refine Le.of ?_ ?_ ?_ ?_ ?_<;>simp[qU,qG,qO,qH,qP,qK,qF,qI,qJ,qN,zX]<;>try omega
   ·have g97:¬((97:Int)≤n):=by omega
    have g65:¬((65:Int)≤n):=by omega
    have g48:((48:Int)≤n):=by omega
    have l122:((n:Int)≤122):=by omega
    have l90:((n:Int)≤90):=by omega
    have l57:¬((n:Int)≤57):=by omega
    have e95:¬((n:Int)=95):=by omega
    have e46:¬((n:Int)=46):=by omega
    have e45:¬((n:Int)=45):=by omega
    have e43:¬((n:Int)=43):=by omega
    have hs:jD n=false:=by unfold jD;simp;omega
    (simp (disch:=first|omega|assumption) [zz,hlt',hn,g97,g65,g48,l122,l90,l57,e95,e46,e45,e43,hs])
    (repeat with_reducible refine om ?_)
    refine hE _ _ (by simp) ?_
    (simp (disch:=first|omega|assumption) [zz,Tryz.f117])
    exact hbad (by rw[hn];exact hs)
   ·have g97:¬((97:Int)≤n):=by omega
    have g65:((65:Int)≤n):=by omega
    have g48:((48:Int)≤n):=by omega
    have l122:((n:Int)≤122):=by omega
    have l90:((n:Int)≤90):=by omega
    have l57:¬((n:Int)≤57):=by omega
    have e95:¬((n:Int)=95):=by omega
    have e46:¬((n:Int)=46):=by omega
    have e45:¬((n:Int)=45):=by omega
    have e43:¬((n:Int)=43):=by omega
    have hs:jD n=true:=by unfold jD;simp;omega
    (simp (disch:=first|omega|assumption) [zz,hlt',hn,g97,g65,g48,l122,l90,l57,e95,e46,e45,e43,hs])
    (repeat with_reducible refine om ?_)
    refine hN _ (k+1) ?_ ⟨by omega,by rw[List.take_succ_eq_append_getElem hlt,List.all_append,hall];simp[hn,hs]⟩ (by omega)
    refine Le.of ?_ ?_ ?_ ?_ ?_<;>simp[qU,qG,qO,qH,qP,qK,qF,qI,qJ,qN,zX]<;>try omega
   ·have g97:¬((97:Int)≤n):=by omega
    have g65:((65:Int)≤n):=by omega
    have g48:((48:Int)≤n):=by omega
    have l122:((n:Int)≤122):=by omega
    have l90:¬((n:Int)≤90):=by omega
    have l57:¬((n:Int)≤57):=by omega
    have e95:¬((n:Int)=95):=by omega
    have e46:¬((n:Int)=46):=by omega
    have e45:¬((n:Int)=45):=by omega
    have e43:¬((n:Int)=43):=by omega
    have hs:jD n=false:=by unfold jD;simp;omega
    (simp (disch:=first|omega|assumption) [zz,hlt',hn,g97,g65,g48,l122,l90,l57,e95,e46,e45,e43,hs])
    (repeat with_reducible refine om ?_)
    refine hE _ _ (by simp) ?_
    (simp (disch:=first|omega|assumption) [zz,Tryz.f117])
    exact hbad (by rw[hn];exact hs)
   ·subst hc
    have hs:jD 95=true:=by decide
    (simp (disch:=first|omega|assumption) [zz,hlt',hn,hs])
    (repeat with_reducible refine om ?_)
    refine hN _ (k+1) ?_ ⟨by omega,by rw[List.take_succ_eq_append_getElem hlt,List.all_append,hall];simp[hn,hs]⟩ (by omega)
    refine Le.of ?_ ?_ ?_ ?_ ?_<;>simp[qU,qG,qO,qH,qP,qK,qF,qI,qJ,qN,zX]<;>try omega
   ·have g97:¬((97:Int)≤n):=by omega
    have g65:((65:Int)≤n):=by omega
    have g48:((48:Int)≤n):=by omega
    have l122:((n:Int)≤122):=by omega
    have l90:¬((n:Int)≤90):=by omega
    have l57:¬((n:Int)≤57):=by omega
    have e95:¬((n:Int)=95):=by omega
    have e46:¬((n:Int)=46):=by omega
    have e45:¬((n:Int)=45):=by omega
    have e43:¬((n:Int)=43):=by omega
    have hs:jD n=false:=by unfold jD;simp;omega
    (simp (disch:=first|omega|assumption) [zz,hlt',hn,g97,g65,g48,l122,l90,l57,e95,e46,e45,e43,hs])
    (repeat with_reducible refine om ?_)
    refine hE _ _ (by simp) ?_
    (simp (disch:=first|omega|assumption) [zz,Tryz.f117])
    exact hbad (by rw[hn];exact hs)
   ·have g97:((97:Int)≤n):=by omega
    have g65:((65:Int)≤n):=by omega
    have g48:((48:Int)≤n):=by omega
    have l122:((n:Int)≤122):=by omega
    have l90:¬((n:Int)≤90):=by omega
    have l57:¬((n:Int)≤57):=by omega
    have e95:¬((n:Int)=95):=by omega
    have e46:¬((n:Int)=46):=by omega
    have e45:¬((n:Int)=45):=by omega
    have e43:¬((n:Int)=43):=by omega
    have hs:jD n=true:=by unfold jD;simp;omega
    (simp (disch:=first|omega|assumption) [zz,hlt',hn,g97,g65,g48,l122,l90,l57,e95,e46,e45,e43,hs])
    (repeat with_reducible refine om ?_)
    refine hN _ (k+1) ?_ ⟨by omega,by rw[List.take_succ_eq_append_getElem hlt,List.all_append,hall];simp[hn,hs]⟩ (by omega)
    refine Le.of ?_ ?_ ?_ ?_ ?_<;>simp[qU,qG,qO,qH,qP,qK,qF,qI,qJ,qN,zX]<;>try omega
   ·have g97:((97:Int)≤n):=by omega
    have g65:((65:Int)≤n):=by omega
    have g48:((48:Int)≤n):=by omega
    have l122:¬((n:Int)≤122):=by omega
    have l90:¬((n:Int)≤90):=by omega
    have l57:¬((n:Int)≤57):=by omega
    have e95:¬((n:Int)=95):=by omega
    have e46:¬((n:Int)=46):=by omega
    have e45:¬((n:Int)=45):=by omega
    have e43:¬((n:Int)=43):=by omega
    have hs:jD n=false:=by unfold jD;simp;omega
    (simp (disch:=first|omega|assumption) [zz,hlt',hn,g97,g65,g48,l122,l90,l57,e95,e46,e45,e43,hs])
    (repeat with_reducible refine om ?_)
    refine hE _ _ (by simp) ?_
    (simp (disch:=first|omega|assumption) [zz,Tryz.f117])
    exact hbad (by rw[hn];exact hs)
  ·have hlt':¬(k:Int)<l.length:=by omega
   (simp (disch:=first|omega|assumption) [zz,hlt'])
   refine hE _ _ (by simp) ?_
   rw[List.take_of_length_le (by omega)]at hall
   (simp (disch:=first|omega|assumption) [zz,Tryz.f117,hpv,hall])
 ·have h4':(64:Int)<l.length:=by omega
  (simp (disch:=first|omega|assumption) [zz,h1,h2,h3,h4',Tryz.f117,Q0,h4])
end Go.Proofs.YthgocigdldgpgaaGreatDoor
end
section
set_option maxRecDepth 100000
namespace Go.Proofs.YthgocigdldgpgaaGreatDoor
open Go Go.Ab
open Classical
variable [Sel]
theorem PH:∀(x:List UInt8),(47:UInt8)∉x→qT 47 x=[x]
 | [],_=>rfl
 | b::l,h=>by
  simp only[List.mem_cons,not_or]at h
  rw[qT,if_neg (fun e=>h.1 e.symm),PH l h.2]
end Go.Proofs.YthgocigdldgpgaaGreatDoor
end
section
set_option maxRecDepth 100000
namespace Go.Proofs.YthgocigdldgpgaaGreatDoor
open Go Go.Ab
open Classical
variable [Sel] [SelPow] [SelMax]
@[simp] theorem zmJ:qZ Tryz.prog 113=true:=by kernel_rfl
@[simp] theorem zqK:z8 Tryz.prog (.func 113)=false:=q9 zmJ
@[simp] theorem zly:qZ Tryz.prog 108=true:=by kernel_rfl
@[simp] theorem zqs:z8 Tryz.prog (.func 108)=false:=q9 zly
@[simp] theorem zkS:qZ Tryz.prog 107=true:=by kernel_rfl
@[simp] theorem zqo:z8 Tryz.prog (.func 107)=false:=q9 zkS
@[simp] theorem zko:qZ Tryz.prog 106=true:=by kernel_rfl
@[simp] theorem zqt:z8 Tryz.prog (.func 106)=false:=q9 zko
@[simp] theorem zlF:qZ Tryz.prog 110=true:=by kernel_rfl
@[simp] theorem zqu:z8 Tryz.prog (.func 110)=false:=q9 zlF
@[simp] theorem znB:qZ Tryz.prog 64=true:=by kernel_rfl
@[simp] theorem zsd:z8 Tryz.prog (.func 64)=false:=q9 znB
@[simp] theorem zol:qZ Tryz.prog 65=true:=by kernel_rfl
@[simp] theorem zrI:z8 Tryz.prog (.func 65)=false:=q9 zol
@[simp] theorem zlv:qZ Tryz.prog 116=true:=by kernel_rfl
@[simp] theorem zpR:z8 Tryz.prog (.func 116)=false:=q9 zlv
@[simp] theorem zmW:qZ Tryz.prog 151=true:=by kernel_rfl
@[simp] theorem zq9:z8 Tryz.prog (.func 151)=false:=q9 zmW
@[simp] theorem zns:qZ Tryz.prog 26=true:=by kernel_rfl
@[simp] theorem zsf:z8 Tryz.prog (.func 26)=false:=q9 zns
@[simp] theorem znI:qZ Tryz.prog 27=true:=by kernel_rfl
@[simp] theorem zrX:z8 Tryz.prog (.func 27)=false:=q9 znI
@[simp] theorem znv:qZ Tryz.prog 28=true:=by kernel_rfl
@[simp] theorem zrL:z8 Tryz.prog (.func 28)=false:=q9 znv
def jG (d:DoV):AV:=.agg [.i .i64 d.kind,.s d.path,.s d.data,.i .i64 d.why]
def zH (k:KnV):AV:=.agg [.s k.path,.b k.is,.s k.data]
def zK (c:CmdV):AV:=.agg [.sl .no (strs c.words),.s c.rest]
def Z7 (x:Txt × Txt):AV:=.agg [.s x.1,.s x.2]
def zS (l:List (Txt × Txt)):AV:=.sl .no (l.map Z7)
abbrev kQ:TyD:=.struct [128,24,9,127,9,4,72]
abbrev QE:TyD:=.struct [25,9]
abbrev YR:TyD:=.map 9 4
def knE (l:List KnV):List (AV × AV):=l.map fun k=>(.s k.path,zH k)
def QY (l:List Txt):List (AV × AV):=l.map fun p=>(.s p,.b true)
noncomputable def qW (ta ea:AV) (buf:Txt) (K:Nat) (asks:Txt) (waits:Bool) (over:DoV):HObj:=.var kQ (.agg [ta,ea,.s buf,.map (some K),.s asks,.b waits,jG over])
theorem ZA {ta ea:AV} {buf:Txt} {K:Nat} {asks:Txt} {waits:Bool} {over:DoV} (h1:ta.erk=ta) (h2:ea.erk=ea):(qW ta ea buf K asks waits over).er=qW ta ea buf K asks waits over:=by
 simp[qW,HObj.er_var,AV.erk,AV.erks,h1,h2,jG]
theorem zg8 (R:Nat) (e:Int) (ta ea:AV) (buf:Txt) (K:Nat) (asks:Txt) (waits:Bool) (over:DoV) (h1:ta.erk=ta) (h2:ea.erk=ea) :
  q7 Tryz.prog 113 [.av .ptr (.ptr R kQ []),.av (.int .i64) (.i .i64 e)] [(R,qW ta ea buf K asks waits over)] fun r H'=>r=.tup []∧H'=[(R,qW ta ea buf K asks waits ⟨4,[],[],e⟩)]:=by
 refine q7.of_vc laid mixed Tryz.func113 rfl cf0 (by kernel_rfl) (by simp[Tryz.ntmps113]) fun imm0 w0=>?_
 (simp (disch:=first|omega|assumption) [zz,-List.reduceReplicate,qW])
 (simp (disch:=first|omega|assumption) [zz,-List.reduceReplicate,Tryz.f113,h1,h2,jG])
theorem ziH (R:Nat) (s:Txt) (ta ea:AV) (buf:Txt) (K:Nat) (asks:Txt) (waits:Bool) (over:DoV) (h1:ta.erk=ta) (h2:ea.erk=ea) (hb:buf.length≤1000000000) (hs:s.length≤1000000000) :
  q7 Tryz.prog 108 [.av .ptr (.ptr R kQ []),.av .str (.s s)] [(R,qW ta ea buf K asks waits over)] fun r H'=>r=.tup []∧H'=[(R,if 65536<buf.length+s.length then qW ta ea buf K asks waits ⟨4,[],[],6⟩ else qW ta ea (buf++s) K asks waits over)]:=by
 refine q7.of_vc laid mixed Tryz.func108 rfl cf0 (by kernel_rfl) (by simp[Tryz.ntmps108]) fun imm0 w0=>?_
 by_cases h:65536<buf.length+s.length
 ·have h':(65536:Int)<(buf.length:Int)+s.length:=by omega
  (simp (disch:=first|omega|assumption) [zz,-List.reduceReplicate,qW,h'])
  refine qE (R:=fun r H'=>r=.tup []∧H'=[(R,qW ta ea buf K asks waits ⟨4,[],[],6⟩)]) [(R,qW ta ea buf K asks waits over)] [] (by simp[qW]) rfl (by simp[qQ]) (by simp) ?_ ?_
  ·have:=zg8 R 6 ta ea buf K asks waits over h1 h2
   have he:=ZA (buf:=buf) (K:=K) (asks:=asks) (waits:=waits) (over:=over) h1 h2
   simp only[q8.er_cons,q8.er_nil,he]
   exact q7.args this (by simp[qS,coC,TV.er,AV.er])
  rintro r H' ⟨rfl,rfl⟩ _
  refine⟨_,by simpa using HSub.refl _,?_⟩
  have he:=ZA (buf:=buf) (K:=K) (asks:=asks) (waits:=waits) (over:=(⟨4,[],[],6⟩:DoV)) h1 h2
  (simp (disch:=first|omega|assumption) [zz,-List.reduceReplicate,Tryz.f108,he,h])
  rfl
 ·have h':¬(65536:Int)<(buf.length:Int)+s.length:=by omega
  (simp (disch:=first|omega|assumption) [zz,-List.reduceReplicate,qW,h',h])
  refine⟨by omega,?_⟩
  (simp (disch:=first|omega|assumption) [zz,-List.reduceReplicate,Tryz.f108,h1,h2,jG,h])
noncomputable def zA (R:Nat):HObj:=.var .ptr (.ptr R kQ [])
abbrev zry:Cfg:=⟨fun n=>n==2||n==3,fun _=>false⟩
theorem zdh (R:Nat) (tv:AV) (ht:tv.er=tv) (ht2:tv.erk=tv) :
  q7 Tryz.prog 107 [.av .ptr (.ptr R kQ []),.av .func tv] [] fun r H'=>∃br bt,r=.av .func (.fn 147 [.ptr br .ptr [],.ptr bt .func []])∧H'=[(bt,.var .func tv),(br,zA R)]:=by
 refine q7.of_vc laid mixed Tryz.func107 rfl zry (by kernel_rfl) (by simp[Tryz.ntmps107]) fun imm0 w0=>?_
 (simp (disch:=first|omega|assumption) [zz,-List.reduceReplicate])
 intro br bt hb
 (simp (disch:=first|omega|assumption) [zz,-List.reduceReplicate,Tryz.f107,ht,ht2,zA])
 exact⟨br,bt,⟨rfl,rfl⟩,rfl,rfl⟩
end Go.Proofs.YthgocigdldgpgaaGreatDoor
end
