/- The reference's test of a part. No condition beyond each theorem's own. -/
import Derived.Test.YtooipdkilgpojaaGreatDoorP8ToK3
import Derived.Test.YtooipdkilgpojaaGreatDoorQ0ToK5
set_option linter.unusedSimpArgs false
set_option linter.unusedVariables false
set_option linter.unusedSectionVars false
section
set_option maxRecDepth 100000
namespace Go.Proofs.YtooipdkilgpojaaGreatDoor
open Go Go.Ab
open Classical
variable [Sel]
end Go.Proofs.YtooipdkilgpojaaGreatDoor
end
section
set_option maxRecDepth 100000
namespace Go.Proofs.YtooipdkilgpojaaGreatDoor
open Go Go.Ab
open Classical
variable [Sel]
theorem PH:∀(x:List UInt8),(47:UInt8)∉x→qT 47 x=[x]
 | [],_=>rfl
 | b::l,h=>by
  simp only[List.mem_cons,not_or]at h
  rw[qT,if_neg (fun e=>h.1 e.symm),PH l h.2]
end Go.Proofs.YtooipdkilgpojaaGreatDoor
end
section
set_option maxRecDepth 100000
namespace Go.Proofs.YtooipdkilgpojaaGreatDoor
open Go Go.Ab
open Classical
variable [Sel] [SelPow] [SelMax]
@[simp] theorem znD:qZ Tryz.prog 86=true:=by kernel_rfl
@[simp] theorem zrq:z8 Tryz.prog (.func 86)=false:=q9 znD
@[simp] theorem zAA:qZ Tryz.prog 81=true:=by kernel_rfl
@[simp] theorem zBq:z8 Tryz.prog (.func 81)=false:=q9 zAA
@[simp] theorem zon:qZ Tryz.prog 80=true:=by kernel_rfl
@[simp] theorem zs7:z8 Tryz.prog (.func 80)=false:=q9 zon
@[simp] theorem znS:qZ Tryz.prog 79=true:=by kernel_rfl
@[simp] theorem zrJ:z8 Tryz.prog (.func 79)=false:=q9 znS
@[simp] theorem zEm:qZ Tryz.prog 83=true:=by kernel_rfl
@[simp] theorem zEP:z8 Tryz.prog (.func 83)=false:=q9 zEm
@[simp] theorem zof:qZ Tryz.prog 44=true:=by kernel_rfl
@[simp] theorem zsk:z8 Tryz.prog (.func 44)=false:=q9 zof
@[simp] theorem znA:qZ Tryz.prog 45=true:=by kernel_rfl
@[simp] theorem zrT:z8 Tryz.prog (.func 45)=false:=q9 znA
@[simp] theorem zo6:qZ Tryz.prog 89=true:=by kernel_rfl
@[simp] theorem zrM:z8 Tryz.prog (.func 89)=false:=q9 zo6
@[simp] theorem zke:qZ Tryz.prog 131=true:=by kernel_rfl
@[simp] theorem zqO:z8 Tryz.prog (.func 131)=false:=q9 zke
@[simp] theorem zoA:qZ Tryz.prog 14=true:=by kernel_rfl
@[simp] theorem zrs:z8 Tryz.prog (.func 14)=false:=q9 zoA
@[simp] theorem zoB:qZ Tryz.prog 15=true:=by kernel_rfl
@[simp] theorem zrV:z8 Tryz.prog (.func 15)=false:=q9 zoB
@[simp] theorem zoD:qZ Tryz.prog 16=true:=by kernel_rfl
@[simp] theorem zrv:z8 Tryz.prog (.func 16)=false:=q9 zoD
def jG (d:DoV):AV:=.agg [.i .i64 d.kind,.s d.path,.s d.data,.i .i64 d.why]
def zH (k:KnV):AV:=.agg [.s k.path,.b k.is,.s k.data]
def zK (c:CmdV):AV:=.agg [.sl .no (strs c.words),.s c.rest]
def Z7 (x:Txt × Txt):AV:=.agg [.s x.1,.s x.2]
def zS (l:List (Txt × Txt)):AV:=.sl .no (l.map Z7)
abbrev kQ:TyD:=.struct [105,24,9,104,9,4,53]
abbrev QE:TyD:=.struct [25,9]
abbrev YR:TyD:=.map 9 4
def knE (l:List KnV):List (AV × AV):=l.map fun k=>(.s k.path,zH k)
def QY (l:List Txt):List (AV × AV):=l.map fun p=>(.s p,.b true)
noncomputable def qW (ta ea:AV) (buf:Txt) (K:Nat) (asks:Txt) (waits:Bool) (over:DoV):HObj:=.var kQ (.agg [ta,ea,.s buf,.map (some K),.s asks,.b waits,jG over])
theorem ZA {ta ea:AV} {buf:Txt} {K:Nat} {asks:Txt} {waits:Bool} {over:DoV} (h1:ta.erk=ta) (h2:ea.erk=ea):(qW ta ea buf K asks waits over).er=qW ta ea buf K asks waits over:=by
 simp[qW,HObj.er_var,AV.erk,AV.erks,h1,h2,jG]
theorem zg8 (R:Nat) (e:Int) (ta ea:AV) (buf:Txt) (K:Nat) (asks:Txt) (waits:Bool) (over:DoV) (h1:ta.erk=ta) (h2:ea.erk=ea) :
  q7 Tryz.prog 86 [.av .ptr (.ptr R kQ []),.av (.int .i64) (.i .i64 e)] [(R,qW ta ea buf K asks waits over)] fun r H'=>r=.tup []∧H'=[(R,qW ta ea buf K asks waits ⟨4,[],[],e⟩)]:=by
 refine q7.of_vc laid mixed Tryz.func86 rfl cf0 (by kernel_rfl) (by simp[Tryz.ntmps86]) fun imm0 w0=>?_
 (simp (disch:=first|omega|assumption) [zz,-List.reduceReplicate,qW])
 (simp (disch:=first|omega|assumption) [zz,-List.reduceReplicate,Tryz.f86,h1,h2,jG])
theorem ziH (R:Nat) (s:Txt) (ta ea:AV) (buf:Txt) (K:Nat) (asks:Txt) (waits:Bool) (over:DoV) (h1:ta.erk=ta) (h2:ea.erk=ea) (hb:buf.length≤1000000000) (hs:s.length≤1000000000000000) :
  q7 Tryz.prog 81 [.av .ptr (.ptr R kQ []),.av .str (.s s)] [(R,qW ta ea buf K asks waits over)] fun r H'=>r=.tup []∧H'=[(R,if 65536<buf.length+s.length then qW ta ea buf K asks waits ⟨4,[],[],6⟩ else qW ta ea (buf++s) K asks waits over)]:=by
 refine q7.of_vc laid mixed Tryz.func81 rfl cf0 (by kernel_rfl) (by simp[Tryz.ntmps81]) fun imm0 w0=>?_
 by_cases h:65536<buf.length+s.length
 ·have h':(65536:Int)<(buf.length:Int)+s.length:=by omega
  (simp (disch:=first|omega|assumption) [zz,-List.reduceReplicate,qW,h'])
  refine qE (R:=fun r H'=>r=.tup []∧H'=[(R,qW ta ea buf K asks waits ⟨4,[],[],6⟩)]) [(R,qW ta ea buf K asks waits over)] [] (by simp[qW]) rfl (by simp[qQ]) (by simp) ?_ ?_
  ·have:=zg8 R 6 ta ea buf K asks waits over h1 h2
   have he:=ZA (buf:=buf) (K:=K) (asks:=asks) (waits:=waits) (over:=over) h1 h2
   simp only[q8.er_cons,q8.er_nil,he]
   exact q7.args this (by simp[qS,coC,TV.er,AV.er])
  rintro r H' ⟨rfl,rfl⟩ _
  refine⟨_,by simpa using HSub.refl _,?_⟩
  have he:=ZA (buf:=buf) (K:=K) (asks:=asks) (waits:=waits) (over:=(⟨4,[],[],6⟩:DoV)) h1 h2
  (simp (disch:=first|omega|assumption) [zz,-List.reduceReplicate,Tryz.f81,he,h])
  rfl
 ·have h':¬(65536:Int)<(buf.length:Int)+s.length:=by omega
  (simp (disch:=first|omega|assumption) [zz,-List.reduceReplicate,qW,h',h])
  refine⟨by omega,?_⟩
  (simp (disch:=first|omega|assumption) [zz,-List.reduceReplicate,Tryz.f81,h1,h2,jG,h])
noncomputable def zA (R:Nat):HObj:=.var .ptr (.ptr R kQ [])
abbrev zry:Cfg:=⟨fun n=>n==2||n==3,fun _=>false⟩
theorem zdh (R:Nat) (tv:AV) (ht:tv.er=tv) (ht2:tv.erk=tv) :
  q7 Tryz.prog 80 [.av .ptr (.ptr R kQ []),.av .func tv] [] fun r H'=>∃br bt,r=.av .func (.fn 127 [.ptr br .ptr [],.ptr bt .func []])∧H'=[(bt,.var .func tv),(br,zA R)]:=by
 refine q7.of_vc laid mixed Tryz.func80 rfl zry (by kernel_rfl) (by simp[Tryz.ntmps80]) fun imm0 w0=>?_
 (simp (disch:=first|omega|assumption) [zz,-List.reduceReplicate])
 intro br bt hb
 (simp (disch:=first|omega|assumption) [zz,-List.reduceReplicate,Tryz.f80,ht,ht2,zA])
 exact⟨br,bt,⟨rfl,rfl⟩,rfl,rfl⟩
end Go.Proofs.YtooipdkilgpojaaGreatDoor
end
