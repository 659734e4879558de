/- The reference's test of a part. No condition beyond each theorem's own. -/
import Derived.Test.YtidhkfcjichiiaaGreatDoorP8ToJK0
import Derived.Test.YtidhkfcjichiiaaGreatDoorQ0ToK5
set_option linter.unusedSimpArgs false
set_option linter.unusedVariables false
set_option linter.unusedSectionVars false
section
set_option maxRecDepth 100000
namespace Go.Proofs.YtidhkfcjichiiaaGreatDoor
open Go Go.Ab
open Classical
variable [Sel]
end Go.Proofs.YtidhkfcjichiiaaGreatDoor
end
section
set_option maxRecDepth 100000
namespace Go.Proofs.YtidhkfcjichiiaaGreatDoor
open Go Go.Ab
open Classical
variable [Sel]
theorem PH:∀(x:List UInt8),(47:UInt8)∉x→qT 47 x=[x]
 | [],_=>rfl
 | b::l,h=>by
  simp only[List.mem_cons,not_or]at h
  rw[qT,if_neg (fun e=>h.1 e.symm),PH l h.2]
end Go.Proofs.YtidhkfcjichiiaaGreatDoor
end
section
set_option maxRecDepth 100000
namespace Go.Proofs.YtidhkfcjichiiaaGreatDoor
open Go Go.Ab
open Classical
variable [Sel] [SelPow] [SelMax]
@[simp] theorem zA0:qZ Tryz.prog 119=true:=by kernel_rfl
@[simp] theorem zAN:z8 Tryz.prog (.func 119)=false:=q9 zA0
@[simp] theorem zmQ:qZ Tryz.prog 114=true:=by kernel_rfl
@[simp] theorem zqv:z8 Tryz.prog (.func 114)=false:=q9 zmQ
@[simp] theorem zmJ:qZ Tryz.prog 113=true:=by kernel_rfl
@[simp] theorem zqK:z8 Tryz.prog (.func 113)=false:=q9 zmJ
@[simp] theorem zkM:qZ Tryz.prog 112=true:=by kernel_rfl
@[simp] theorem zqf:z8 Tryz.prog (.func 112)=false:=q9 zkM
@[simp] theorem zlv:qZ Tryz.prog 116=true:=by kernel_rfl
@[simp] theorem zpR:z8 Tryz.prog (.func 116)=false:=q9 zlv
@[simp] theorem znz:qZ Tryz.prog 61=true:=by kernel_rfl
@[simp] theorem zsh:z8 Tryz.prog (.func 61)=false:=q9 znz
@[simp] theorem zo2:qZ Tryz.prog 62=true:=by kernel_rfl
@[simp] theorem zs3:z8 Tryz.prog (.func 62)=false:=q9 zo2
@[simp] theorem zzT:qZ Tryz.prog 122=true:=by kernel_rfl
@[simp] theorem zAQ:z8 Tryz.prog (.func 122)=false:=q9 zzT
@[simp] theorem zAm:qZ Tryz.prog 172=true:=by kernel_rfl
@[simp] theorem zAV:z8 Tryz.prog (.func 172)=false:=q9 zAm
@[simp] theorem zyp:qZ Tryz.prog 17=true:=by kernel_rfl
@[simp] theorem zyA:z8 Tryz.prog (.func 17)=false:=q9 zyp
@[simp] theorem zoL:qZ Tryz.prog 18=true:=by kernel_rfl
@[simp] theorem zs1:z8 Tryz.prog (.func 18)=false:=q9 zoL
@[simp] theorem zAB:qZ Tryz.prog 19=true:=by kernel_rfl
@[simp] theorem zBs:z8 Tryz.prog (.func 19)=false:=q9 zAB
def jG (d:DoV):AV:=.agg [.i .i64 d.kind,.s d.path,.s d.data,.i .i64 d.why]
def zH (k:KnV):AV:=.agg [.s k.path,.b k.is,.s k.data]
def zK (c:CmdV):AV:=.agg [.sl .no (strs c.words),.s c.rest]
def Z7 (x:Txt × Txt):AV:=.agg [.s x.1,.s x.2]
def zS (l:List (Txt × Txt)):AV:=.sl .no (l.map Z7)
abbrev kQ:TyD:=.struct [123,24,9,122,9,4,53]
abbrev QE:TyD:=.struct [25,9]
abbrev YR:TyD:=.map 9 4
def knE (l:List KnV):List (AV × AV):=l.map fun k=>(.s k.path,zH k)
def QY (l:List Txt):List (AV × AV):=l.map fun p=>(.s p,.b true)
noncomputable def qW (ta ea:AV) (buf:Txt) (K:Nat) (asks:Txt) (waits:Bool) (over:DoV):HObj:=.var kQ (.agg [ta,ea,.s buf,.map (some K),.s asks,.b waits,jG over])
theorem ZA {ta ea:AV} {buf:Txt} {K:Nat} {asks:Txt} {waits:Bool} {over:DoV} (h1:ta.erk=ta) (h2:ea.erk=ea):(qW ta ea buf K asks waits over).er=qW ta ea buf K asks waits over:=by
 simp[qW,HObj.er_var,AV.erk,AV.erks,h1,h2,jG]
theorem zg8 (R:Nat) (e:Int) (ta ea:AV) (buf:Txt) (K:Nat) (asks:Txt) (waits:Bool) (over:DoV) (h1:ta.erk=ta) (h2:ea.erk=ea) :
  q7 Tryz.prog 119 [.av .ptr (.ptr R kQ []),.av (.int .i64) (.i .i64 e)] [(R,qW ta ea buf K asks waits over)] fun r H'=>r=.tup []∧H'=[(R,qW ta ea buf K asks waits ⟨4,[],[],e⟩)]:=by
 refine q7.of_vc laid mixed Tryz.func119 rfl cf0 (by kernel_rfl) (by simp[Tryz.ntmps119]) fun imm0 w0=>?_
 (simp (disch:=first|omega|assumption) [zz,-List.reduceReplicate,qW])
 (simp (disch:=first|omega|assumption) [zz,-List.reduceReplicate,Tryz.f119,h1,h2,jG])
theorem ziH (R:Nat) (s:Txt) (ta ea:AV) (buf:Txt) (K:Nat) (asks:Txt) (waits:Bool) (over:DoV) (h1:ta.erk=ta) (h2:ea.erk=ea) (hb:buf.length≤1000000000) (hs:s.length≤1000000000000000) :
  q7 Tryz.prog 114 [.av .ptr (.ptr R kQ []),.av .str (.s s)] [(R,qW ta ea buf K asks waits over)] fun r H'=>r=.tup []∧H'=[(R,if 65536<buf.length+s.length then qW ta ea buf K asks waits ⟨4,[],[],6⟩ else qW ta ea (buf++s) K asks waits over)]:=by
 refine q7.of_vc laid mixed Tryz.func114 rfl cf0 (by kernel_rfl) (by simp[Tryz.ntmps114]) fun imm0 w0=>?_
 by_cases h:65536<buf.length+s.length
 ·have h':(65536:Int)<(buf.length:Int)+s.length:=by omega
  (simp (disch:=first|omega|assumption) [zz,-List.reduceReplicate,qW,h'])
  refine qE (R:=fun r H'=>r=.tup []∧H'=[(R,qW ta ea buf K asks waits ⟨4,[],[],6⟩)]) [(R,qW ta ea buf K asks waits over)] [] (by simp[qW]) rfl (by simp[qQ]) (by simp) ?_ ?_
  ·have:=zg8 R 6 ta ea buf K asks waits over h1 h2
   have he:=ZA (buf:=buf) (K:=K) (asks:=asks) (waits:=waits) (over:=over) h1 h2
   simp only[q8.er_cons,q8.er_nil,he]
   exact q7.args this (by simp[qS,coC,TV.er,AV.er])
  rintro r H' ⟨rfl,rfl⟩ _
  refine⟨_,by simpa using HSub.refl _,?_⟩
  have he:=ZA (buf:=buf) (K:=K) (asks:=asks) (waits:=waits) (over:=(⟨4,[],[],6⟩:DoV)) h1 h2
  (simp (disch:=first|omega|assumption) [zz,-List.reduceReplicate,Tryz.f114,he,h])
  rfl
 ·have h':¬(65536:Int)<(buf.length:Int)+s.length:=by omega
  (simp (disch:=first|omega|assumption) [zz,-List.reduceReplicate,qW,h',h])
  refine⟨by omega,?_⟩
  (simp (disch:=first|omega|assumption) [zz,-List.reduceReplicate,Tryz.f114,h1,h2,jG,h])
noncomputable def zA (R:Nat):HObj:=.var .ptr (.ptr R kQ [])
abbrev zry:Cfg:=⟨fun n=>n==2||n==3,fun _=>false⟩
theorem zdh (R:Nat) (tv:AV) (ht:tv.er=tv) (ht2:tv.erk=tv) :
  q7 Tryz.prog 113 [.av .ptr (.ptr R kQ []),.av .func tv] [] fun r H'=>∃br bt,r=.av .func (.fn 168 [.ptr br .ptr [],.ptr bt .func []])∧H'=[(bt,.var .func tv),(br,zA R)]:=by
 refine q7.of_vc laid mixed Tryz.func113 rfl zry (by kernel_rfl) (by simp[Tryz.ntmps113]) fun imm0 w0=>?_
 (simp (disch:=first|omega|assumption) [zz,-List.reduceReplicate])
 intro br bt hb
 (simp (disch:=first|omega|assumption) [zz,-List.reduceReplicate,Tryz.f113,ht,ht2,zA])
 exact⟨br,bt,⟨rfl,rfl⟩,rfl,rfl⟩
end Go.Proofs.YtidhkfcjichiiaaGreatDoor
end
