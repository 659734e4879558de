/- The document's answer for a disk of two files: the program. No condition. -/
import Derived.Test.YtognnffjdckalaaGreatDoorKF0ToKR0
set_option linter.unusedSimpArgs false
set_option linter.unusedVariables false
set_option linter.unusedSectionVars false
set_option maxHeartbeats 64000000
set_option maxRecDepth 100000
namespace Go.Proofs.YtognnffjdckalaaGreatDoor
open Go Go.Ab
open Classical
section
variable [Sel] [SelPow]
def flD (d:DV):List kJ:=ents false d
def rdE (d:DV):AV:=jP (flD d) d.left
theorem jX (d:DV):(rdE d).er=rdE d:=J3 _ _
theorem WH (d:DV):(flD d).length<=2:=UL false d
theorem ztA:Op.bytesLess nmK nmN=true:=by decide
theorem ztn:Op.bytesLess nmN nmK=false:=by decide
theorem zs7:Op.bytesLess nmK nmK=false:=by decide
theorem zti:Op.bytesLess nmN nmN=false:=by decide
theorem uE (d:DV):flD d=YL nmK d.m++YL nmN d.n:=rfl
theorem zcl (b:Bool) (f:FV) (d:DV):JU (flD d) (nmB b,f)=flD (QF b (some f) d):=by
 obtain⟨m,n,c⟩:=d
 cases b<;>cases m<;>cases n<;>simp[uE,YL,JU,nmB,QF,ztA,ztn,zs7,zti,US,UZ]
theorem P0 (b:Bool) (d:DV):(jO b d=none/\atF (flD d) (nmB b)=-1)\/∃f,jO b d=some f/\∃i:Nat,atF (flD d) (nmB b)=i/\(flD d)[i]?=some (nmB b,f):=by
 obtain⟨m,n,c⟩:=d
 cases b<;>cases m<;>cases n<;>simp[uE,YL,atF,nmB,jO,US,UZ,List.findIdx?_cons]
 ·exact⟨0,rfl,rfl⟩
 ·exact⟨0,rfl,rfl⟩
 ·exact⟨0,rfl,rfl⟩
 ·exact⟨1,rfl,rfl⟩
theorem zaD (b:Bool) (o:Option FV) (d:DV):QF b o (w5 d)={ QF b o d with left:=GF d.left }:=by cases b<;>rfl
theorem cJ {l:List kJ} {i:Nat} {p:kJ} (h:l[i]?=some p):(l.map zE)[i]?=some (zE p):=by simp[h]
theorem zmE (b:Bool):¬nmB b=[]:=zdI b
theorem uD (b:Bool) (x:List UInt8) (d:DV) (hd:DOK d) (hx:szF (jO b d)+x.length<=1000000000000) :
  PC Tryz.prog 20 [.av RdT (rdE d),.av .str (.s (nmB b)),.av .str (.s x)] (.tup [(RdT,rdE (qW b x d).1),(.int .i64,.i .i64 (qW b x d).2)]):=by
 have hl:=WH d
 have hat:=XG (flD d) d.left (nmB b) (by omega)
 have hwt:=fun f=>gE (flD d) d.left (nmB b,f) (by omega)
 have hps:=fun l2=>XW (flD d) l2 d.left (by have:=hd.2.2.1;omega) hd.2.2.2
 have hne:=zmE b
 have hne':¬[]=nmB b:=fun e=>hne e.symm
 have e1:=J3 (flD d) d.left
 have hap:qW b x d=if d.left=0 then(d,18) else(QF b (some (XB x (jO b d))) (w5 d),0):=rfl
 have hend:∀f,f=XB x (jO b d)->(if d.left=0 then jP (flD d) d.left else jP (JU (flD d) (nmB b,f)) (GF d.left))=rdE (qW b x d).1/\(if d.left=0 then(18:Int) else 0)=(qW b x d).2:=by
  rintro f rfl
  rw[hap]
  by_cases h0:d.left=0
  ·rw[if_pos h0,if_pos h0,if_pos h0];exact⟨rfl,rfl⟩
  ·rw[if_neg h0,if_neg h0,if_neg h0,zcl,zaD];exact⟨rfl,rfl⟩
 obtain⟨RE,hRE⟩:∃RE,RE=rdE (qW b x d).1:=⟨_,rfl⟩
 obtain⟨RN,hRN⟩:∃RN,RN=(qW b x d).2:=⟨_,rfl⟩
 have hre:RE.er=RE:=by rw[hRE];exact jX _
 rw[<-hRE,<-hRN]at hend |-
 refine zow Tryz.func20 cf0 fun imm0 w0=>?_
 simp (disch:=omega) [zz,rdE,hne,hne']
 refine YE hat rfl rfl (by simp) (by simp[q9,TV.er,AV.er,e1]) ?_
 rcases P0 b d with⟨hg,ha⟩|⟨f,hg,i,ha,hgi⟩
 ·have hh:=hend ⟨x,0⟩ (by rw[hg];rfl)
  have hw:=hwt ⟨x,0⟩
  have hp:=hps (JU (flD d) (nmB b,⟨x,0⟩))
  rw[hh.1,hh.2]at hp
  have hwe:=QZ (JU (flD d) (nmB b,⟨x,0⟩))
  have hwi:q9 [TV.av RdT (jP (flD d) d.left),.av RfT (.agg [.s (nmB b),.s x,.i .i64 0])] [.av RdT (jP (flD d) d.left),.av RfT (zE (nmB b,⟨x,0⟩))]:=by simp[q9,zE]
  rw[ha]
  simp (disch:=omega) [zz]
  (repeat with_reducible refine om ?_)
  refine XF hw rfl rfl (by simp) (by simpa[TV.er,AV.er,AV.ers,e1]using hwi) ?_
  simp (disch:=omega) [zz]
  (repeat with_reducible refine om ?_)
  refine XF hp rfl rfl (by simp) (by simp[q9,TV.er,AV.er,e1,hwe]) ?_
  simp (disch:=omega) [zz]
  (repeat with_reducible refine om ?_)
  simp (disch:=omega) [zz,Tryz.f20,hre]
 ·have hh:=hend ⟨f.data++x,f.sure⟩ (by rw[hg];rfl)
  have hw:=hwt ⟨f.data++x,f.sure⟩
  have hp:=hps (JU (flD d) (nmB b,⟨f.data++x,f.sure⟩))
  rw[hh.1,hh.2]at hp
  have hwe:=QZ (JU (flD d) (nmB b,⟨f.data++x,f.sure⟩))
  have hgm:=cJ hgi
  have hil:i<(flD d).length:=(List.getElem?_eq_some_iff.1 hgi).1
  have hfe:zE (nmB b,f)=.agg [.s (nmB b),.s f.data,.i .i64 f.sure]:=rfl
  have hle:jP (flD d) d.left=.agg [.sl .no ((flD d).map zE),.i .i64 d.left]:=rfl
  have hwi:q9 [TV.av RdT (jP (flD d) d.left),.av RfT (.agg [.s (nmB b),.s (f.data++x),.i .i64 f.sure])] [.av RdT (jP (flD d) d.left),.av RfT (zE (nmB b,⟨f.data++x,f.sure⟩))]:=by simp[q9,zE]
  have hsz:f.data.length+x.length<=1000000000000:=by rw[hg]at hx;exact hx
  have e1b:=e1
  rw[hle]at e1b
  rw[hle]at hw hp hwi
  rw[ha]
  simp (disch:=omega) [zz,hle,hil,hgm,hfe]
  (repeat with_reducible refine om ?_)
  refine XF hw rfl rfl (by simp) (by simpa[TV.er,AV.er,AV.ers,e1b,AV.ers_eq,Function.comp_def,Tok.k]using hwi) ?_
  simp (disch:=omega) [zz]
  (repeat with_reducible refine om ?_)
  refine XF hp rfl rfl (by simp) (by simp[q9,TV.er,AV.er,AV.ers,AV.ers_eq,Function.comp_def,Tok.k,hwe]) ?_
  simp (disch:=omega) [zz]
  (repeat with_reducible refine om ?_)
  simp (disch:=omega) [zz,Tryz.f20,hre]
theorem CM (b:Bool) (d:DV) (hd:DOK d) (hx:szF (jO b d)<=1000000000000) :
  PC Tryz.prog 108 [.av RdT (rdE d),.av .str (.s (nmB b))] (.tup [(RdT,rdE (jE b d).1),(.int .i64,.i .i64 (jE b d).2)]):=by
 have hl:=WH d
 have hat:=XG (flD d) d.left (nmB b) (by omega)
 have hwt:=fun f=>gE (flD d) d.left (nmB b,f) (by omega)
 have hps:=fun l2=>XW (flD d) l2 d.left (by have:=hd.2.2.1;omega) hd.2.2.2
 have hne:=zmE b
 have hne':¬[]=nmB b:=fun e=>hne e.symm
 have e1:=J3 (flD d) d.left
 obtain⟨RE,hRE⟩:∃RE,RE=rdE (jE b d).1:=⟨_,rfl⟩
 obtain⟨RN,hRN⟩:∃RN,RN=(jE b d).2:=⟨_,rfl⟩
 have hre:RE.er=RE:=by rw[hRE];exact jX _
 rw[<-hRE,<-hRN]
 refine zow Tryz.func108 cf0 fun imm0 w0=>?_
 simp (disch:=omega) [zz,rdE,hne,hne']
 refine YE hat rfl rfl (by simp) (by simp[q9,TV.er,AV.er,e1]) ?_
 rcases P0 b d with⟨hg,ha⟩|⟨f,hg,i,ha,hgi⟩
 ·have hs:jE b d=(d,10):=by unfold jE;rw[hg]
  rw[hs]at hRE hRN
  subst hRE hRN
  rw[ha]
  simp (disch:=omega) [zz,Tryz.f108,rdE,e1]
 ·have hs:jE b d=if d.left=0 then(d,18) else(QF b (some ⟨f.data,f.data.length⟩) (w5 d),0):=by unfold jE;rw[hg]
  have hw:=hwt ⟨f.data,f.data.length⟩
  have hp:=hps (JU (flD d) (nmB b,⟨f.data,f.data.length⟩))
  have hend:(if d.left=0 then jP (flD d) d.left else jP (JU (flD d) (nmB b,⟨f.data,f.data.length⟩)) (GF d.left))=RE/\(if d.left=0 then(18:Int) else 0)=RN:=by
   rw[hRE,hRN,hs]
   by_cases h0:d.left=0
   ·rw[if_pos h0,if_pos h0,if_pos h0];exact⟨rfl,rfl⟩
   ·rw[if_neg h0,if_neg h0,if_neg h0,zcl,zaD];exact⟨rfl,rfl⟩
  rw[hend.1,hend.2]at hp
  have hwe:=QZ (JU (flD d) (nmB b,⟨f.data,f.data.length⟩))
  have hgm:=cJ hgi
  have hil:i<(flD d).length:=(List.getElem?_eq_some_iff.1 hgi).1
  have hfe:zE (nmB b,f)=.agg [.s (nmB b),.s f.data,.i .i64 f.sure]:=rfl
  have hle:jP (flD d) d.left=.agg [.sl .no ((flD d).map zE),.i .i64 d.left]:=rfl
  have hwi:q9 [TV.av RdT (jP (flD d) d.left),.av RfT (.agg [.s (nmB b),.s f.data,.i .i64 f.data.length])] [.av RdT (jP (flD d) d.left),.av RfT (zE (nmB b,⟨f.data,f.data.length⟩))]:=by simp[q9,zE]
  have hsz:f.data.length<=1000000000000:=by rw[hg]at hx;exact hx
  have e1b:=e1
  rw[hle]at e1b
  rw[hle]at hw hp hwi
  rw[ha]
  simp (disch:=omega) [zz,hle,hil,hgm,hfe]
  (repeat with_reducible refine om ?_)
  refine XF hw rfl rfl (by simp) (by simpa[TV.er,AV.er,AV.ers,e1b,AV.ers_eq,Function.comp_def,Tok.k]using hwi) ?_
  simp (disch:=omega) [zz]
  (repeat with_reducible refine om ?_)
  refine XF hp rfl rfl (by simp) (by simp[q9,TV.er,AV.er,AV.ers,AV.ers_eq,Function.comp_def,Tok.k,hwe]) ?_
  simp (disch:=omega) [zz]
  (repeat with_reducible refine om ?_)
  simp (disch:=omega) [zz,Tryz.f108,hre]
theorem noN (d:DV):(flD d).filter (fun p=>decide (p.1≠nmN))=flD ⟨d.m,none,d.left⟩:=by
 obtain⟨m,n,c⟩:=d
 cases m<;>cases n<;>simp[uE,YL,US]
theorem zkw (f:FV) (d:DV):JU (flD ⟨d.m,none,d.left⟩) (nmK,f)=flD ⟨some f,none,GF d.left⟩:=by
 obtain⟨m,n,c⟩:=d
 cases m<;>simp[uE,YL,JU,zs7]
theorem zek (d:DV) (hd:DOK d) :
  PC Tryz.prog 134 [.av RdT (rdE d),.av .str (.s nmN),.av .str (.s nmK)] (.tup [(RdT,rdE (jL d).1),(.int .i64,.i .i64 (jL d).2)]):=by
 have hl:=WH d
 have hat:=XG (flD d) d.left nmN (by omega)
 have hwo:=VH (flD d) d.left nmN (by omega)
 rw[noN]at hwo
 have hwt:=fun f=>gE (flD ⟨d.m,none,d.left⟩) 0 (nmK,f) (by have:=WH ⟨d.m,none,d.left⟩;omega)
 have hps:=fun l2=>XW (flD d) l2 d.left (by have:=hd.2.2.1;omega) hd.2.2.2
 have e1:=J3 (flD d) d.left
 obtain⟨RE,hRE⟩:∃RE,RE=rdE (jL d).1:=⟨_,rfl⟩
 obtain⟨RN,hRN⟩:∃RN,RN=(jL d).2:=⟨_,rfl⟩
 have hre:RE.er=RE:=by rw[hRE];exact jX _
 rw[<-hRE,<-hRN]
 refine zow Tryz.func134 cf0 fun imm0 w0=>?_
 simp (disch:=omega) [zz,rdE,nmN,nmK]
 refine YE hat rfl rfl (by simp) (by simp[q9,TV.er,AV.er,e1,nmN]) ?_
 rcases P0 true d with⟨hg,ha⟩|⟨f,hg,i,ha,hgi⟩
 ·have hg':d.n=none:=hg
  have hs:jL d=(d,10):=by unfold jL;rw[hg']
  rw[hs]at hRE hRN
  subst hRE hRN
  rw[show nmN=nmB true from rfl,ha]
  simp (disch:=omega) [zz,Tryz.f134,rdE,e1]
 ·have hg':d.n=some f:=hg
  have hs:jL d=if d.left=0 then(d,18) else(⟨some f,none,(w5 d).left⟩,0):=by unfold jL;rw[hg']
  have hw:=hwt f
  have hp:=hps (JU (flD ⟨d.m,none,d.left⟩) (nmK,f))
  have hend:(if d.left=0 then jP (flD d) d.left else jP (JU (flD ⟨d.m,none,d.left⟩) (nmK,f)) (GF d.left))=RE/\(if d.left=0 then(18:Int) else 0)=RN:=by
   rw[hRE,hRN,hs]
   by_cases h0:d.left=0
   ·rw[if_pos h0,if_pos h0,if_pos h0];exact⟨rfl,rfl⟩
   ·rw[if_neg h0,if_neg h0,if_neg h0,zkw];exact⟨rfl,rfl⟩
  rw[hend.1,hend.2]at hp
  have hwe:=QZ (JU (flD ⟨d.m,none,d.left⟩) (nmK,f))
  have hoe:=QZ (flD ⟨d.m,none,d.left⟩)
  have hgm:=cJ hgi
  have hil:i<(flD d).length:=(List.getElem?_eq_some_iff.1 hgi).1
  have hfe:zE (nmB true,f)=.agg [.s nmN,.s f.data,.i .i64 f.sure]:=rfl
  have hfe2:zE (nmK,f)=.agg [.s nmK,.s f.data,.i .i64 f.sure]:=rfl
  have hle:jP (flD d) d.left=.agg [.sl .no ((flD d).map zE),.i .i64 d.left]:=rfl
  have hle2:jP (flD ⟨d.m,none,d.left⟩) 0=.agg [QV (flD ⟨d.m,none,d.left⟩),.i .i64 0]:=rfl
  rw[hfe2,hle2]at hw
  have e1b:=e1
  rw[hle]at e1b
  rw[hle]at hwo hp
  rw[show nmN=nmB true from rfl,ha]
  simp (disch:=omega) [zz,hle,hil,hgm,hfe]
  (repeat with_reducible refine om ?_)
  refine XF hwo rfl rfl (by simp) (by simp[q9,TV.er,AV.er,AV.ers,AV.ers_eq,Function.comp_def,Tok.k,nmN]) ?_
  simp (disch:=omega) [zz]
  (repeat with_reducible refine om ?_)
  refine XF hw rfl rfl (by simp) (by simp[q9,TV.er,AV.er,AV.ers,hoe,nmK]) ?_
  simp (disch:=omega) [zz]
  (repeat with_reducible refine om ?_)
  refine XF hp rfl rfl (by simp) (by simp[q9,TV.er,AV.er,AV.ers,AV.ers_eq,Function.comp_def,Tok.k,hwe]) ?_
  simp (disch:=omega) [zz]
  (repeat with_reducible refine om ?_)
  simp (disch:=omega) [zz,Tryz.f134,hre]
theorem zeF (d:DV) (hd:DOK d) :
  PC Tryz.prog 132 [.av RdT (rdE d),.av .str (.s nmN)] (.tup [(RdT,rdE (jN d).1),(.int .i64,.i .i64 (jN d).2)]):=by
 have hl:=WH d
 have hat:=XG (flD d) d.left nmN (by omega)
 have hwo:=VH (flD d) d.left nmN (by omega)
 rw[noN]at hwo
 have hp:=XW (flD d) (flD ⟨d.m,none,d.left⟩) d.left (by have:=hd.2.2.1;omega) hd.2.2.2
 have e1:=J3 (flD d) d.left
 obtain⟨RE,hRE⟩:∃RE,RE=rdE (jN d).1:=⟨_,rfl⟩
 obtain⟨RN,hRN⟩:∃RN,RN=(jN d).2:=⟨_,rfl⟩
 have hre:RE.er=RE:=by rw[hRE];exact jX _
 rw[<-hRE,<-hRN]
 refine zow Tryz.func132 cf0 fun imm0 w0=>?_
 simp (disch:=omega) [zz,rdE,nmN]
 refine YE hat rfl rfl (by simp) (by simp[q9,TV.er,AV.er,e1,nmN]) ?_
 rcases P0 true d with⟨hg,ha⟩|⟨f,hg,i,ha,hgi⟩
 ·have hg':d.n=none:=hg
  have hs:jN d=(d,10):=by unfold jN;rw[hg']
  rw[hs]at hRE hRN
  subst hRE hRN
  rw[show nmN=nmB true from rfl,ha]
  simp (disch:=omega) [zz,Tryz.f132,rdE,e1]
 ·have hg':d.n=some f:=hg
  have hs:jN d=if d.left=0 then(d,18) else(⟨d.m,none,(w5 d).left⟩,0):=by unfold jN;rw[hg']
  have hend:(if d.left=0 then jP (flD d) d.left else jP (flD ⟨d.m,none,d.left⟩) (GF d.left))=RE/\(if d.left=0 then(18:Int) else 0)=RN:=by
   rw[hRE,hRN,hs]
   by_cases h0:d.left=0
   ·rw[if_pos h0,if_pos h0,if_pos h0];exact⟨rfl,rfl⟩
   ·rw[if_neg h0,if_neg h0,if_neg h0];exact⟨rfl,rfl⟩
  rw[hend.1,hend.2]at hp
  have hoe:=QZ (flD ⟨d.m,none,d.left⟩)
  rw[show nmN=nmB true from rfl,ha]
  simp (disch:=omega) [zz]
  (repeat with_reducible refine om ?_)
  refine XF hwo rfl rfl (by simp) (by simp[q9,TV.er,AV.er,e1,nmN]) ?_
  simp (disch:=omega) [zz]
  (repeat with_reducible refine om ?_)
  refine XF hp rfl rfl (by simp) (by simp[q9,TV.er,AV.er,e1,hoe]) ?_
  simp (disch:=omega) [zz]
  (repeat with_reducible refine om ?_)
  simp (disch:=omega) [zz,Tryz.f132,hre]
theorem zid (b:Bool) (d:DV) :
  PC Tryz.prog 76 [.av RdT (rdE d),.av .str (.s (nmB b))] (.tup [(.str,.s (JW (jO b d))),(.int .i64,.i .i64 (if jO b d=none then 10 else 0))]):=by
 have hl:=WH d
 have hat:=XG (flD d) d.left (nmB b) (by omega)
 have e1:=J3 (flD d) d.left
 refine zow Tryz.func76 cf0 fun imm0 w0=>?_
 simp (disch:=omega) [zz,rdE]
 refine YE hat rfl rfl (by simp) (by simp[q9,TV.er,AV.er,e1]) ?_
 rcases P0 b d with⟨hg,ha⟩|⟨f,hg,i,ha,hgi⟩
 ·rw[ha,hg]
  simp (disch:=omega) [zz,Tryz.f76,JW]
 ·have hgm:=cJ hgi
  have hil:i<(flD d).length:=(List.getElem?_eq_some_iff.1 hgi).1
  have hfe:zE (nmB b,f)=.agg [.s (nmB b),.s f.data,.i .i64 f.sure]:=rfl
  have hle:jP (flD d) d.left=.agg [.sl .no ((flD d).map zE),.i .i64 d.left]:=rfl
  rw[ha,hg]
  simp (disch:=omega) [zz,hle,hil,hgm,hfe,Tryz.f76,JW]
theorem pD (d:DV) (n:Int):PC Tryz.prog 18 [.av RdT (rdE d),.av (.int .i64) (.i .i64 n)] (.av RdT (rdE (ZH n d))):=by
 have e1:=fun c=>J3 (flD d) c
 have hle:∀c,jP (flD d) c=.agg [QV (flD d),.i .i64 c]:=fun _=>rfl
 have hb:rdE (ZH n d)=.agg [QV (flD d),.i .i64 (if n<0 then -1 else n)]:=by
  have:(if n < -1 then(-1:Int) else n)=if n<0 then -1 else n:=by split<;>split<;>omega
  unfold rdE ZH
  rw[this];rfl
 have e2:=QZ (flD d)
 rw[hb]
 refine zow Tryz.func18 cf0 fun imm0 w0=>?_
 by_cases h:n<0
 ·simp (disch:=omega) [zz,rdE,hle,h,Tryz.f18,e2]
 ·simp (disch:=omega) [zz,rdE,hle,h,Tryz.f18,e2]
end
section
variable [Sel]
abbrev zrT:Cfg:=⟨fun n=>n==3,fun n=>n==2⟩
noncomputable def Q8 (B:Nat) (s:List UInt32) (op:AV) (n:Nat):HObj:=.var J9 (.agg [.agg (s.map zZ),op,.i .u64 n])
theorem zk0:q6 Tryz.prog 147 [] [] fun r H'=>∃B,r=.av .ptr (.ptr B J9 [])/\H'=[(B,Q8 B h8 .nsl 0)]:=by
 refine zov Tryz.func147 zrT fun imm0 w0=>?_
 simp (disch:=omega) [zz]
 refine YE zfg rfl rfl (by simp) (by simp[q9]) ?_
 simp (disch:=omega) [zz]
 intro B
 simp (disch:=omega) [zz,Tryz.f147]
 simp[Q8,AV.erks_eq,Function.comp_def,AV.erk]
abbrev ziN:Cfg:=⟨fun _=>false,fun n=>n==39||n==22⟩
noncomputable def u8O (cap:Nat) (l:List UInt8) (j:Nat):HObj:=.var (.arr cap 5) (.agg (l.map kH++List.replicate j (.i .u8 0)))
theorem zmx (cap:Nat) (l:List UInt8) (j:Nat):(u8O cap l j).er=u8O cap l j:=by
 simp only[u8O,HObj.er_var,AV.erk,AV.erks_eq,List.map_append,List.map_map,Function.comp_def,List.map_replicate]
theorem zpa (cap:Nat) (l:List UInt8) (j:Nat):AV.erks (l.map kH++List.replicate j (.i .u8 0))=l.map kH++List.replicate j (.i .u8 0):=by
 simp only[AV.erk,AV.erks_eq,List.map_append,List.map_map,Function.comp_def,List.map_replicate]
theorem zdz (b m:Nat) (e:TypeId) (xs:List AV):∀l:List UInt32,xP b m e xs (l.map zZ)=l.map zZ
 | []=>by simp[xP]
 | x::l=>by simp[xP,fzA,zdz b m e xs l]
def gN (B:Nat) (l:List UInt8) (H:q7):Prop:=∃b cap,b≠B/\l.length<=cap/\H.Perm [(B,Q8 B h8 (.msl b 5 0 l.length cap) l.length),(b,u8O cap l (cap-l.length))]
theorem zk9 (B:Nat) (l:List UInt8) (h0:0<l.length) (hl:l.length<64) :
  q6 Tryz.prog 148 [.av .ptr (.ptr B J9 []),.av .str (.s l)] [(B,Q8 B h8 .nsl 0)] fun r H'=>r=.tup []/\gN B l H':=by
 refine zov Tryz.func148 ziN fun imm0 w0=>?_
 simp (disch:=omega) [zz,Q8,P6]
 refine⟨by omega,fun h=>(by rw[h]at h0;simp at h0),fun _ b cap hb hc=>?_⟩
 have hb':¬B=b:=fun e=>hb e.symm
 simp (disch:=omega) [zz,hb,hb']
 refine AT.loop' (α:=Unit) (fun _=>St.of [(0,.av .ptr (.ptr B J9 []))] [] (fun _=>0) [(b,u8O cap l (cap-l.length)),(B,Q8 B h8 (.msl b 5 0 l.length cap) l.length)])
  (fun _=>True) (fun _=>0) () ?_ trivial ?_
 ·apply Le.of<;>simp[le9,Q8,u8O,hb,hb']<;>try omega
 rintro _ _ KL hN hE
 have hl':¬(64:Int)<=l.length:=by omega
 have hpr:gN B l [(b,u8O cap l (cap-l.length)),(B,Q8 B h8 (.msl b 5 0 l.length cap) l.length)]:=⟨b,cap,hb,hc,List.Perm.swap _ _ _⟩
 simp only[u8O,Q8]at hpr
 refine zrd ziN ?_
 simp (disch:=omega) [zz,Q8,u8O,hb,hb',hl']
 refine hE _ _ (by simp) ?_
 have her:=zpa cap l (cap-l.length)
 have hew:AV.erks (h8.map zZ)=h8.map zZ:=by simp[AV.erks_eq,Function.comp_def,AV.erk]
 simp (disch:=omega) [zz,Tryz.f148,her,hew]
 exact hpr
theorem zkD (B b cap:Nat) (hb:b≠B) (p l:List UInt8) (h0:0<p.length) (hp:p.length<64) (hc:p.length<=cap) (hl:l.length<=1000000000000) :
  q6 Tryz.prog 148 [.av .ptr (.ptr B J9 []),.av .str (.s l)] [(B,Q8 B h8 (.msl b 5 0 p.length cap) p.length),(b,u8O cap p (cap-p.length))]
   fun r H'=>r=.tup []/\H'=zG B (jT (p++l) ((p++l).length / 64)) (jB ((p++l).drop (64*((p++l).length / 64)))) (p++l).length:=by
 have hb':¬B=b:=fun e=>hb e.symm
 refine zov Tryz.func148 ziN fun imm0 w0=>?_
 have hbe:∀x,jB x=.sl .no (x.map kH):=fun _=>rfl
 obtain⟨t,ht⟩:∃t,t=p++l:=⟨_,rfl⟩
 have htl:t.length=p.length+l.length:=by rw[ht];simp
 rw[<-ht]
 simp (disch:=omega) [zz,Q8,u8O,P6,hb,hb']
 generalize hF:AT _ _ _=F
 have hmain:F (St.of [(0,.av .ptr (.ptr B J9 []))] [] (fun _=>0) (zG B h8 (jB t) t.length)):=by
  subst hF
  refine AT.loopV (α:=Nat) (fun k ver=>St.of [(0,.av .ptr (.ptr B J9 []))] [] ver (zG B (jT t k) (jB (t.drop (64*k))) t.length))
   (fun k=>64*k<=t.length) (fun k=>t.length-64*k) 0 ?_ ?_ ?_
  ·refine Le.ofW ?_ ?_ ?_ ?_ ?_<;>simp[k8,z1,pC,UU,G7,GG,zgx,zbz,pN,XC,uU,kD,qU,JC,q5,qE,qV,qF,qS,zG,jT,hbe]<;>try omega
  ·simp
  rintro k ver hk KL hN hE
  obtain⟨R,hR⟩:∃R,t.drop (64*k)=R:=⟨_,rfl⟩
  have hRl:R.length=t.length-64*k:=by rw[<-hR];simp
  have hkl:=WJ t k
  have hn1:jT t (k+1)=zO (jT t k) (R.take 64):=by rw[jT,hR]
  have hn2:t.drop (64*(k+1))=R.drop 64:=by rw[<-hR,List.drop_drop];congr 1
  rw[hR]
  obtain⟨S,hS⟩:∃S,jT t k=S:=⟨_,rfl⟩
  rw[hS]at hn1 hkl |-
  refine zrd ziN ?_
  by_cases hlt:64<=R.length
  ·have hlt':(64:Int)<=R.length:=by omega
   simp (disch:=omega) [zz,zG,hbe,hlt']
   (repeat with_reducible refine om ?_)
   refine zF (R:=fun r H'=>r=.tup []/\H'=zG B (zO S (R.take 64)) (jB R) t.length) rfl (by simp[qH]) (by simp) ?_ ?_
   ·have:=zgp B S (R.take 64) hkl (by simp;omega) (op:=jB R) (nn:=.i .u64 t.length) (by simp) (by simp[AV.erk])
    simpa[zG,hbe,TV.er,AV.er,AV.ers_eq,AV.erk,AV.erks,AV.erks_eq,q7.er_cons,q7.er_nil,HObj.er_var,Function.comp_def,Tok.k]using this
   ·rintro r H' ⟨rfl,rfl⟩
    simp (disch:=omega) [zz,zG,hbe]
    (repeat with_reducible refine om ?_)
    refine hN _ (k+1) ?_ (by omega) (by omega)
    rw[hn1,hn2]
    have htk:List.take R.length (List.map kH R)=List.map kH R:=List.take_of_length_le (by simp)
    refine Le.ofW ?_ ?_ ?_ ?_ ?_<;>simp[k8,z1,pC,UU,G7,GG,zgx,zbz,pN,XC,uU,kD,qU,JC,q5,qE,qV,qF,qS,zG,hbe,htk]<;>try omega
  ·have hlt':¬(64:Int)<=R.length:=by omega
   have hk2:t.length / 64=k:=by omega
   simp (disch:=omega) [zz,zG,hbe,hlt']
   refine hE _ _ (by simp) ?_
   simp (disch:=omega) [zz,Tryz.f148,zG,hbe,hk2,hS,hR]
   simp[AV.erks_eq,Function.comp_def,AV.erk,Tok.k,AV.ers_eq,AV.er]
 ·subst hF
  have e1:(p.map kH++List.replicate (cap-p.length) (AV.i .u8 0)).take p.length=p.map kH:=by rw[List.take_append_of_le_length (by simp)];exact List.take_of_length_le (by simp)
  have e3:∀c,(t.map kH++List.replicate c (AV.i .u8 0)).take (p.length+l.length)=t.map kH:=fun c=>by rw[<-htl,List.take_append_of_le_length (by simp)];exact List.take_of_length_le (by simp)
  have e4:p.map kH++l.map kH=t.map kH:=by rw[ht];simp
  refine⟨hc,⟨by omega,by omega⟩,fun h1=>?_,fun h1 b' cap' h2 h3 h4=>?_⟩
  ·refine AT.fzLe (by exact laid) (b:=b) (m:=cap) (e:=5) (xs:=t.map kH++List.replicate (cap-t.length) (.i .u8 0)) (rest:=[(B,Q8 B h8 (.msl b 5 0 t.length cap) t.length)]) ?_ ?_ hmain
   ·have e5:(p.map kH++List.replicate (cap-p.length) (AV.i .u8 0)).take p.length++(l.map (fun b=>AV.i .u8 b.toNat)++(p.map kH++List.replicate (cap-p.length) (AV.i .u8 0)).drop (p.length+l.length))=t.map kH++List.replicate (cap-t.length) (AV.i .u8 0):=by
     rw[e1,List.drop_append,List.drop_of_length_le (by simp),<-List.append_assoc,List.drop_replicate,htl]
     have e6:cap-p.length-(p.length+l.length-(p.map kH).length)=cap-(p.length+l.length):=by simp;omega
     rw[e6,List.nil_append]
     congr 1
    simp only[e5,Q8,htl,Int.natCast_add]
    exact List.Perm.swap _ _ _
   ·apply Le.of<;>simp[le9,fzS,fzO,V2,fzA,xP,zdz,Q8,zG,hbe,h1,e3,htl]<;>try omega
  ·have h2':¬B=b':=fun e=>h2 e.symm
   have h3':¬b=b':=fun e=>h3 e.symm
   simp (disch:=omega) [zz,h2,h3,h2',h3',hb,hb']
   refine AT.fzLe (by exact laid) (b:=b') (m:=cap') (e:=5) (xs:=t.map kH++List.replicate (cap'-t.length) (.i .u8 0)) (rest:=[(B,Q8 B h8 (.msl b' 5 0 t.length cap') t.length),(b,u8O cap p (cap-p.length))]) ?_ ?_ hmain
   ·have e5:(p.map kH++List.replicate (cap-p.length) (AV.i .u8 0)).take p.length++(l.map (fun b=>AV.i .u8 b.toNat)++List.replicate (cap'-(p.length+l.length)) (AV.i .u8 0))=t.map kH++List.replicate (cap'-t.length) (AV.i .u8 0):=by
     rw[e1,<-List.append_assoc,htl]
     congr 1
    simp only[e5,Q8,u8O,htl,Int.natCast_add]
    exact List.Perm.refl _
   ·apply Le.of<;>simp[le9,fzS,fzO,V2,fzA,xP,zdz,Q8,zG,hbe,h4,e3,htl]<;>try omega
end
end Go.Proofs.YtognnffjdckalaaGreatDoor
