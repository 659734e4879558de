/- The document's commands; a text checked. No condition beyond each theorem's own. -/
import Derived.Test.YthgocigdldgpgaaGreatDoorRW1ToRW5
import Derived.Test.YthgocigdldgpgaaGreatDoorKIToK4
import Derived.Test.YthgocigdldgpgaaGreatDoorK11ToBS0
import Derived.Test.YthgocigdldgpgaaGreatDoorFW2ToPM0
import Derived.Test.YthgocigdldgpgaaGreatDoorB0
import Derived.Test.YthgocigdldgpgaaGreatDoorAbXToY
set_option linter.unusedSimpArgs false
set_option linter.unusedVariables false
set_option linter.unusedSectionVars false
section
set_option maxRecDepth 100000
namespace Go.Proofs.YthgocigdldgpgaaGreatDoor
open Go Go.Ab
open Classical
variable [Sel] [SelPow] [SelMax]
set_option maxHeartbeats 16000000 in
theorem zy6 (w:Txt) (ws:List Txt) (hl:ws.length≤1000000000) (hw:∀x∈ws,x.length≤1000000000):PC Tryz.prog 49 [.av (.slice 9) (.sl .no (strs (w::ws)))] (.av .bool (.b (zoT w ws))):=by
 have h0:ws=[]∨(∃x,ws=[x])∨(∃x y,ws=[x,y])∨∃x y z r,ws=x::y::z::r:=by
  rcases ws with _|⟨x,_|⟨y,_|⟨z,r⟩⟩⟩
  ·exact .inl rfl
  ·exact .inr (.inl ⟨x,rfl⟩)
  ·exact .inr (.inr (.inl ⟨x,y,rfl⟩))
  ·exact .inr (.inr (.inr ⟨x,y,z,r,rfl⟩))
 have hr:∀r:List Txt,¬(r.length:Int)+1+1+1+1=2:=fun r=>by omega
 have hr3:∀r:List Txt,¬(r.length:Int)+1+1+1+1=3:=fun r=>by omega
 have hr1:∀r:List Txt,¬(r.length:Int)+1+1+1+1=1:=fun r=>by omega
 have hr0:∀r:List Txt,(0:Int)<(r.length:Int)+1+1+1+1:=fun r=>by omega
 refine PC.of <| q7.of_vc laid mixed Tryz.func49 rfl cf0 (by kernel_rfl) (by simp[Tryz.ntmps49]) fun imm0 w0=>?_
 by_cases hText:w=tText
 ·subst hText
  (simp (maxSteps:=2000000) (disch:=first|omega|assumption) [zz,-List.reduceReplicate,strs,zoT,tText,Tryz.f49])
 by_cases hRead:w=zZ
 ·subst hRead
  rcases h0 with rfl|⟨x,rfl⟩|⟨x,y,rfl⟩|⟨x,y,z,r,rfl⟩
  ·(simp (maxSteps:=2000000) (disch:=first|omega|assumption) [zz,-List.reduceReplicate,strs,zoT,tText,zZ,w8,j8,jT,yO,wQ,kG,wP,y4,kV,kY,yR,Tryz.f49])
  ·have hm:=zl8 x (hw x (by simp))
   (simp (maxSteps:=2000000) (disch:=first|omega|assumption) [zz,-List.reduceReplicate,strs,tText,zZ,w8,j8,jT,yO,wQ,kG,wP,y4,kV,kY,yR])
   refine qL hm rfl rfl (by simp) (by simp[qS,TV.er,AV.er]) ?_
   (simp (maxSteps:=2000000) (disch:=first|omega|assumption) [zz,-List.reduceReplicate,zoT,tText,zZ,w8,j8,jT,yO,wQ,kG,wP,y4,kV,kY,yR,Tryz.f49])
  ·(simp (maxSteps:=2000000) (disch:=first|omega|assumption) [zz,-List.reduceReplicate,strs,zoT,tText,zZ,w8,j8,jT,yO,wQ,kG,wP,y4,kV,kY,yR,Tryz.f49])
  ·(simp (maxSteps:=2000000) (disch:=first|omega|assumption) [zz,-List.reduceReplicate,strs,hr,hr0,zoT,tText,zZ,w8,j8,jT,yO,wQ,kG,wP,y4,kV,kY,yR,Tryz.f49])
 by_cases hTry:w=w8
 ·subst hTry
  rcases h0 with rfl|⟨x,rfl⟩|⟨x,y,rfl⟩|⟨x,y,z,r,rfl⟩
  ·(simp (maxSteps:=2000000) (disch:=first|omega|assumption) [zz,-List.reduceReplicate,strs,zoT,tText,zZ,w8,j8,jT,yO,wQ,kG,wP,y4,kV,kY,yR,Tryz.f49])
  ·have hm:=zl8 x (hw x (by simp))
   (simp (maxSteps:=2000000) (disch:=first|omega|assumption) [zz,-List.reduceReplicate,strs,tText,zZ,w8,j8,jT,yO,wQ,kG,wP,y4,kV,kY,yR])
   refine qL hm rfl rfl (by simp) (by simp[qS,TV.er,AV.er]) ?_
   (simp (maxSteps:=2000000) (disch:=first|omega|assumption) [zz,-List.reduceReplicate,zoT,tText,zZ,w8,j8,jT,yO,wQ,kG,wP,y4,kV,kY,yR,Tryz.f49])
  ·(simp (maxSteps:=2000000) (disch:=first|omega|assumption) [zz,-List.reduceReplicate,strs,zoT,tText,zZ,w8,j8,jT,yO,wQ,kG,wP,y4,kV,kY,yR,Tryz.f49])
  ·(simp (maxSteps:=2000000) (disch:=first|omega|assumption) [zz,-List.reduceReplicate,strs,hr,hr0,zoT,tText,zZ,w8,j8,jT,yO,wQ,kG,wP,y4,kV,kY,yR,Tryz.f49])
 by_cases hWrite:w=j8
 ·subst hWrite
  rcases h0 with rfl|⟨x,rfl⟩|⟨x,y,rfl⟩|⟨x,y,z,r,rfl⟩
  ·(simp (maxSteps:=2000000) (disch:=first|omega|assumption) [zz,-List.reduceReplicate,strs,zoT,tText,zZ,w8,j8,jT,yO,wQ,kG,wP,y4,kV,kY,yR,Tryz.f49])
  ·have hm:=zl8 x (hw x (by simp))
   (simp (maxSteps:=2000000) (disch:=first|omega|assumption) [zz,-List.reduceReplicate,strs,tText,zZ,w8,j8,jT,yO,wQ,kG,wP,y4,kV,kY,yR])
   refine qL hm rfl rfl (by simp) (by simp[qS,TV.er,AV.er]) ?_
   (simp (maxSteps:=2000000) (disch:=first|omega|assumption) [zz,-List.reduceReplicate,zoT,tText,zZ,w8,j8,jT,yO,wQ,kG,wP,y4,kV,kY,yR,Tryz.f49])
  ·(simp (maxSteps:=2000000) (disch:=first|omega|assumption) [zz,-List.reduceReplicate,strs,zoT,tText,zZ,w8,j8,jT,yO,wQ,kG,wP,y4,kV,kY,yR,Tryz.f49])
  ·(simp (maxSteps:=2000000) (disch:=first|omega|assumption) [zz,-List.reduceReplicate,strs,hr,hr0,zoT,tText,zZ,w8,j8,jT,yO,wQ,kG,wP,y4,kV,kY,yR,Tryz.f49])
 by_cases hScan:w=jT
 ·subst hScan
  rcases h0 with rfl|⟨x,rfl⟩|⟨x,y,rfl⟩|⟨x,y,z,r,rfl⟩
  ·(simp (maxSteps:=2000000) (disch:=first|omega|assumption) [zz,-List.reduceReplicate,strs,zoT,tText,zZ,w8,j8,jT,yO,wQ,kG,wP,y4,kV,kY,yR,Tryz.f49])
  ·(simp (maxSteps:=2000000) (disch:=first|omega|assumption) [zz,-List.reduceReplicate,strs,zoT,tText,zZ,w8,j8,jT,yO,wQ,kG,wP,y4,kV,kY,yR,Tryz.f49])
  ·have hm:=zl8 x (hw x (by simp))
   (simp (maxSteps:=2000000) (disch:=first|omega|assumption) [zz,-List.reduceReplicate,strs,tText,zZ,w8,j8,jT,yO,wQ,kG,wP,y4,kV,kY,yR])
   refine qL hm rfl rfl (by simp) (by simp[qS,TV.er,AV.er]) ?_
   (simp (maxSteps:=2000000) (disch:=first|omega|assumption) [zz,-List.reduceReplicate,zoT,tText,zZ,w8,j8,jT,yO,wQ,kG,wP,y4,kV,kY,yR,Tryz.f49])
  ·(simp (maxSteps:=2000000) (disch:=first|omega|assumption) [zz,-List.reduceReplicate,strs,hr3,hr0,zoT,tText,zZ,w8,j8,jT,yO,wQ,kG,wP,y4,kV,kY,yR,Tryz.f49])
 by_cases hEnv:w=yO
 ·subst hEnv
  rcases h0 with rfl|⟨x,rfl⟩|⟨x,y,rfl⟩|⟨x,y,z,r,rfl⟩
  ·(simp (maxSteps:=2000000) (disch:=first|omega|assumption) [zz,-List.reduceReplicate,strs,zoT,tText,zZ,w8,j8,jT,yO,wQ,kG,wP,y4,kV,kY,yR,Tryz.f49])
  ·(simp (maxSteps:=2000000) (disch:=first|omega|assumption) [zz,-List.reduceReplicate,strs,zoT,tText,zZ,w8,j8,jT,yO,wQ,kG,wP,y4,kV,kY,yR,Tryz.f49])
  ·(simp (maxSteps:=2000000) (disch:=first|omega|assumption) [zz,-List.reduceReplicate,strs,zoT,tText,zZ,w8,j8,jT,yO,wQ,kG,wP,y4,kV,kY,yR,Tryz.f49])
  ·(simp (maxSteps:=2000000) (disch:=first|omega|assumption) [zz,-List.reduceReplicate,strs,hr,hr1,hr0,zoT,tText,zZ,w8,j8,jT,yO,wQ,kG,wP,y4,kV,kY,yR,Tryz.f49])
 by_cases hKeep:w=wQ
 ·subst hKeep
  rcases h0 with rfl|⟨x,rfl⟩|⟨x,y,rfl⟩|⟨x,y,z,r,rfl⟩
  ·(simp (maxSteps:=2000000) (disch:=first|omega|assumption) [zz,-List.reduceReplicate,strs,zoT,tText,zZ,w8,j8,jT,yO,wQ,kG,wP,y4,kV,kY,yR,Tryz.f49])
  ·(simp (maxSteps:=2000000) (disch:=first|omega|assumption) [zz,-List.reduceReplicate,strs,zoT,tText,zZ,w8,j8,jT,yO,wQ,kG,wP,y4,kV,kY,yR,Tryz.f49])
  ·(simp (maxSteps:=2000000) (disch:=first|omega|assumption) [zz,-List.reduceReplicate,strs,zoT,tText,zZ,w8,j8,jT,yO,wQ,kG,wP,y4,kV,kY,yR,Tryz.f49])
  ·(simp (maxSteps:=2000000) (disch:=first|omega|assumption) [zz,-List.reduceReplicate,strs,hr,hr1,hr0,zoT,tText,zZ,w8,j8,jT,yO,wQ,kG,wP,y4,kV,kY,yR,Tryz.f49])
 by_cases hNeed:w=kG
 ·subst hNeed
  rcases h0 with rfl|⟨x,rfl⟩|⟨x,y,rfl⟩|⟨x,y,z,r,rfl⟩
  ·(simp (maxSteps:=2000000) (disch:=first|omega|assumption) [zz,-List.reduceReplicate,strs,zoT,tText,zZ,w8,j8,jT,yO,wQ,kG,wP,y4,kV,kY,yR,Tryz.f49])
  ·(simp (maxSteps:=2000000) (disch:=first|omega|assumption) [zz,-List.reduceReplicate,strs,zoT,tText,zZ,w8,j8,jT,yO,wQ,kG,wP,y4,kV,kY,yR,Tryz.f49])
  ·(simp (maxSteps:=2000000) (disch:=first|omega|assumption) [zz,-List.reduceReplicate,strs,zoT,tText,zZ,w8,j8,jT,yO,wQ,kG,wP,y4,kV,kY,yR,Tryz.f49])
  ·(simp (maxSteps:=2000000) (disch:=first|omega|assumption) [zz,-List.reduceReplicate,strs,hr,hr1,hr0,zoT,tText,zZ,w8,j8,jT,yO,wQ,kG,wP,y4,kV,kY,yR,Tryz.f49])
 by_cases hSort:w=wP
 ·subst hSort
  rcases h0 with rfl|⟨x,rfl⟩|⟨x,y,rfl⟩|⟨x,y,z,r,rfl⟩
  ·(simp (maxSteps:=2000000) (disch:=first|omega|assumption) [zz,-List.reduceReplicate,strs,zoT,tText,zZ,w8,j8,jT,yO,wQ,kG,wP,y4,kV,kY,yR,Tryz.f49])
  ·(simp (maxSteps:=2000000) (disch:=first|omega|assumption) [zz,-List.reduceReplicate,strs,zoT,tText,zZ,w8,j8,jT,yO,wQ,kG,wP,y4,kV,kY,yR,Tryz.f49])
  ·(simp (maxSteps:=2000000) (disch:=first|omega|assumption) [zz,-List.reduceReplicate,strs,zoT,tText,zZ,w8,j8,jT,yO,wQ,kG,wP,y4,kV,kY,yR,Tryz.f49])
  ·(simp (maxSteps:=2000000) (disch:=first|omega|assumption) [zz,-List.reduceReplicate,strs,hr,hr1,hr0,zoT,tText,zZ,w8,j8,jT,yO,wQ,kG,wP,y4,kV,kY,yR,Tryz.f49])
 by_cases hUniq:w=y4
 ·subst hUniq
  rcases h0 with rfl|⟨x,rfl⟩|⟨x,y,rfl⟩|⟨x,y,z,r,rfl⟩
  ·(simp (maxSteps:=2000000) (disch:=first|omega|assumption) [zz,-List.reduceReplicate,strs,zoT,tText,zZ,w8,j8,jT,yO,wQ,kG,wP,y4,kV,kY,yR,Tryz.f49])
  ·(simp (maxSteps:=2000000) (disch:=first|omega|assumption) [zz,-List.reduceReplicate,strs,zoT,tText,zZ,w8,j8,jT,yO,wQ,kG,wP,y4,kV,kY,yR,Tryz.f49])
  ·(simp (maxSteps:=2000000) (disch:=first|omega|assumption) [zz,-List.reduceReplicate,strs,zoT,tText,zZ,w8,j8,jT,yO,wQ,kG,wP,y4,kV,kY,yR,Tryz.f49])
  ·(simp (maxSteps:=2000000) (disch:=first|omega|assumption) [zz,-List.reduceReplicate,strs,hr,hr1,hr0,zoT,tText,zZ,w8,j8,jT,yO,wQ,kG,wP,y4,kV,kY,yR,Tryz.f49])
 by_cases hUpper:w=kV
 ·subst hUpper
  rcases h0 with rfl|⟨x,rfl⟩|⟨x,y,rfl⟩|⟨x,y,z,r,rfl⟩
  ·(simp (maxSteps:=2000000) (disch:=first|omega|assumption) [zz,-List.reduceReplicate,strs,zoT,tText,zZ,w8,j8,jT,yO,wQ,kG,wP,y4,kV,kY,yR,Tryz.f49])
  ·(simp (maxSteps:=2000000) (disch:=first|omega|assumption) [zz,-List.reduceReplicate,strs,zoT,tText,zZ,w8,j8,jT,yO,wQ,kG,wP,y4,kV,kY,yR,Tryz.f49])
  ·(simp (maxSteps:=2000000) (disch:=first|omega|assumption) [zz,-List.reduceReplicate,strs,zoT,tText,zZ,w8,j8,jT,yO,wQ,kG,wP,y4,kV,kY,yR,Tryz.f49])
  ·(simp (maxSteps:=2000000) (disch:=first|omega|assumption) [zz,-List.reduceReplicate,strs,hr,hr1,hr0,zoT,tText,zZ,w8,j8,jT,yO,wQ,kG,wP,y4,kV,kY,yR,Tryz.f49])
 by_cases hCount:w=kY
 ·subst hCount
  rcases h0 with rfl|⟨x,rfl⟩|⟨x,y,rfl⟩|⟨x,y,z,r,rfl⟩
  ·(simp (maxSteps:=2000000) (disch:=first|omega|assumption) [zz,-List.reduceReplicate,strs,zoT,tText,zZ,w8,j8,jT,yO,wQ,kG,wP,y4,kV,kY,yR,Tryz.f49])
  ·(simp (maxSteps:=2000000) (disch:=first|omega|assumption) [zz,-List.reduceReplicate,strs,zoT,tText,zZ,w8,j8,jT,yO,wQ,kG,wP,y4,kV,kY,yR,Tryz.f49])
  ·(simp (maxSteps:=2000000) (disch:=first|omega|assumption) [zz,-List.reduceReplicate,strs,zoT,tText,zZ,w8,j8,jT,yO,wQ,kG,wP,y4,kV,kY,yR,Tryz.f49])
  ·(simp (maxSteps:=2000000) (disch:=first|omega|assumption) [zz,-List.reduceReplicate,strs,hr,hr1,hr0,zoT,tText,zZ,w8,j8,jT,yO,wQ,kG,wP,y4,kV,kY,yR,Tryz.f49])
 by_cases hFail:w=yR
 ·subst hFail
  rcases h0 with rfl|⟨x,rfl⟩|⟨x,y,rfl⟩|⟨x,y,z,r,rfl⟩
  ·(simp (maxSteps:=2000000) (disch:=first|omega|assumption) [zz,-List.reduceReplicate,strs,zoT,tText,zZ,w8,j8,jT,yO,wQ,kG,wP,y4,kV,kY,yR,Tryz.f49])
  ·(simp (maxSteps:=2000000) (disch:=first|omega|assumption) [zz,-List.reduceReplicate,strs,zoT,tText,zZ,w8,j8,jT,yO,wQ,kG,wP,y4,kV,kY,yR,Tryz.f49])
  ·(simp (maxSteps:=2000000) (disch:=first|omega|assumption) [zz,-List.reduceReplicate,strs,zoT,tText,zZ,w8,j8,jT,yO,wQ,kG,wP,y4,kV,kY,yR,Tryz.f49])
  ·(simp (maxSteps:=2000000) (disch:=first|omega|assumption) [zz,-List.reduceReplicate,strs,hr,hr1,hr0,zoT,tText,zZ,w8,j8,jT,yO,wQ,kG,wP,y4,kV,kY,yR,Tryz.f49])
 have kText:¬w=[116,101,120,116]:=hText
 have kRead:¬w=[114,101,97,100]:=hRead
 have kTry:¬w=[116,114,121]:=hTry
 have kWrite:¬w=[119,114,105,116,101]:=hWrite
 have U8:¬w=[115,99,97,110]:=hScan
 have kEnv:¬w=[101,110,118]:=hEnv
 have kKeep:¬w=[107,101,101,112]:=hKeep
 have kNeed:¬w=[110,101,101,100]:=hNeed
 have kSort:¬w=[115,111,114,116]:=hSort
 have kUniq:¬w=[117,110,105,113]:=hUniq
 have kUpper:¬w=[117,112,112,101,114]:=hUpper
 have kCount:¬w=[99,111,117,110,116]:=hCount
 have kFail:¬w=[102,97,105,108]:=hFail
 have hv:zoT w ws=false:=by simp[zoT,hText,hRead,hTry,hWrite,hScan,hEnv,hKeep,hNeed,hSort,hUniq,hUpper,hCount,hFail]
 (simp (maxSteps:=2000000) (disch:=first|omega|assumption) [zz,-List.reduceReplicate,strs,kText,kRead,kTry,kWrite,U8,kEnv,kKeep,kNeed,kSort,kUniq,kUpper,kCount,kFail,hv,Tryz.f49])
theorem zyg:∀(l:List Txt) (i:Nat) (hi:i<l.length),(∀j (hj:j<i),vH (zR (l[j]'(by omega)))=true)→vH (zR l[i])=false→zbZ l=some (i+1)
 | [],i,hi,_,_=>by simp at hi
 | s::r,0,hi,_,h=>by
  have h':vH (zR s)=false:=h
  rw[zbZ,if_neg (by rw[h'];decide)]
 | s::r,i+1,hi,hg,h=>by
  have h0:vH (zR s)=true:=hg 0 (by omega)
  have hi2:i<r.length:=by simpa using hi
  have ih:=zyg r i hi2 (fun j hj=>hg (j+1) (by omega)) h
  rw[zbZ,if_pos h0,ih];rfl
theorem zy4:∀(l:List Txt),(∀j (hj:j<l.length),vH (zR l[j])=true)→zbZ l=none
 | [],_=>rfl
 | s::r,hg=>by
  have h0:vH (zR s)=true:=hg 0 (by simp)
  have ih:=zy4 r fun j hj=>hg (j+1) (by simpa using hj)
  rw[zbZ,if_pos h0,ih];rfl
theorem zxK:∀(l x:List UInt8),x∈zxI l→x.length≤l.length
 | [],x,h=>by simp[zxI]at h
 | b::l,x,h=>by
  rw[zxI]at h
  split at h
  ·rcases List.mem_cons.1 h with rfl|h
   ·simp
   ·have:=zxK l x h;simp only[List.length_cons];omega
  ·split at h
   ·rw[List.mem_singleton.1 h];simp
   ·rename_i y r hy
    rcases List.mem_cons.1 h with rfl|h
    ·have:=zxK l y (by rw[hy];simp);simp only[List.length_cons];omega
    ·have:=zxK l x (by rw[hy];simp[h]);simp only[List.length_cons];omega
set_option maxHeartbeats 16000000 in
theorem zy8 (t:Txt) (ht:t.length≤1000000):PC Tryz.prog 17 [.av .str (.s t)] (.tup [(.int .i64,.i .i64 (DV t).1),(.int .i64,.i .i64 (DV t).2)]):=by
 have hll:=ZE t
 have hlm:∀x∈z7 t,x.length≤1000000:=fun x hx=>by
  rw[zy7]at hx
  have:=zxK t x hx
  omega
 have hrl:=zyi t (by omega)
 have hck:DV t=if 65536<t.length∨400<(z7 t).length then((6:Int),(0:Int)) else match zbZ (z7 t)with
  | some n=>((3:Int),(n:Int))
  | none=>((0:Int),(0:Int)):=rfl
 obtain⟨L,hL⟩:∃L,L=z7 t:=⟨_,rfl⟩
 rw[←hL]at hll hlm hrl hck
 refine PC.of <| q7.of_vc laid mixed Tryz.func17 rfl cf0 (by kernel_rfl) (by simp[Tryz.ntmps17]) fun imm0 w0=>?_
 (simp (maxSteps:=2000000) (disch:=first|omega|assumption) [zz,-List.reduceReplicate])
 refine qL hrl rfl rfl (by simp) (by simp[qS,TV.er,AV.er]) ?_
 by_cases h1:65536<t.length
 ·have h1':(65536:Int)<t.length:=by omega
  rw[if_pos (.inl h1)]at hck
  (simp (maxSteps:=2000000) (disch:=first|omega|assumption) [zz,-List.reduceReplicate,h1',hck,Tryz.f17])
 have h1':¬(65536:Int)<t.length:=by omega
 by_cases h2:400<L.length
 ·have h2':(400:Int)<L.length:=by omega
  rw[if_pos (.inr h2)]at hck
  (simp (maxSteps:=2000000) (disch:=first|omega|assumption) [zz,-List.reduceReplicate,h1',qX,h2',hck,Tryz.f17])
 have h2':¬(400:Int)<L.length:=by omega
 rw[if_neg (by omega)]at hck
 (simp (maxSteps:=2000000) (disch:=first|omega|assumption) [zz,-List.reduceReplicate,h1',qX,h2'])
 refine AT.loop' (α:=Nat) (fun k=>St.of [(4,.av (.slice 9) (.sl .no (strs L))),(5,.av (.int .i64) (.i .i64 k))] [] (fun _=>0) [])
  (fun k=>k≤L.length∧∀j (h:j<L.length),j<k→vH (zR L[j])=true) (fun k=>L.length-k) 0 ?_ ?_ ?_
 ·refine Le.of ?_ ?_ ?_ ?_ ?_<;>simp[qU,qG,zX]<;>try omega
 ·exact⟨by omega,fun j h hj=>by omega⟩
 rintro k ⟨hk,hall⟩ KL hN hE
 refine qM (cf:=cf0) laid mixed _ _ _ (by kernel_rfl) ?_
 by_cases hlt:k<L.length
 ·have hlt':(k:Int)<L.length:=by omega
  have hg:=yH L k hlt
  have hxl:=hlm _ (List.getElem_mem hlt)
  have hba:=zyg L k hlt fun j hj=>hall j (by omega) hj
  have hgo:∀h:vH (zR L[k])=true,∀j (hj:j<L.length),j<k+1→vH (zR L[j])=true:=fun h j hj hjk=>by
   rcases Nat.lt_or_ge j k with h'|h'
   ·exact hall j hj h'
   ·obtain rfl:j=k:=by omega
    exact h
  obtain⟨x,hx⟩:∃x,x=L[k]:=⟨_,rfl⟩
  rw[←hx]at hg hxl hba hgo
  have hwd:=zyh x hxl
  have hwe:∀w∈zR x,w≠[]∧w.length≤1000000:=fun w hw=>by
   have:=ZI hw
   exact⟨this.1,by have:=this.2;simp at this;omega⟩
  have hwl:(zR x).length≤1000001:=Nat.le_trans uI (by omega)
  (simp (maxSteps:=2000000) (disch:=first|omega|assumption) [zz,-List.reduceReplicate,hlt',hg,qX])
  refine qL hwd rfl rfl (by simp) (by simp[qS,TV.er,AV.er]) ?_
  obtain⟨ws,hws⟩:∃ws,ws=zR x:=⟨_,rfl⟩
  rw[←hws]at hwe hwl hba hgo ⊢
  have hpa:=zyd ws (fun w hw=>(hwe w hw).1) (by omega)
  (simp (maxSteps:=2000000) (disch:=first|omega|assumption) [zz,-List.reduceReplicate])
  refine qL hpa rfl rfl (by simp) (by simp[qS,TV.er,AV.er]) ?_
  cases hp:U4 ws with
  | true =>
   have hgd:vH ws=true:=by unfold vH;rw[hp];rfl
   (simp (maxSteps:=2000000) (disch:=first|omega|assumption) [zz,-List.reduceReplicate])
   refine hN _ (k+1) ?_ ⟨by omega,hgo hgd⟩ (by omega)
   refine Le.of ?_ ?_ ?_ ?_ ?_<;>simp[qU,qG,zX]<;>try omega
  | false =>
   cases ws with
   | nil=>cases hp
   | cons w ws =>
    have hcm:=zy6 w ws (by simp only[List.length_cons]at hwl;omega) fun y hy=>by have:=(hwe y (by simp[hy])).2;omega
    (simp (maxSteps:=2000000) (disch:=first|omega|assumption) [zz,-List.reduceReplicate])
    refine qL hcm rfl rfl (by simp) (by simp[qS,TV.er,AV.er]) ?_
    cases hc:zoT w ws with
    | true =>
     have hgd:vH (w::ws)=true:=by unfold vH;rw[hp];exact hc
     (simp (maxSteps:=2000000) (disch:=first|omega|assumption) [zz,-List.reduceReplicate])
     refine hN _ (k+1) ?_ ⟨by omega,hgo hgd⟩ (by omega)
     refine Le.of ?_ ?_ ?_ ?_ ?_<;>simp[qU,qG,zX]<;>try omega
    | false =>
     have hgd:vH (w::ws)=false:=by unfold vH;rw[hp];exact hc
     rw[hba hgd]at hck
     simp only at hck
     (simp (maxSteps:=2000000) (disch:=first|omega|assumption) [zz,-List.reduceReplicate])
     refine hE _ _ (by simp) ?_
     (simp (maxSteps:=2000000) (disch:=first|omega|assumption) [zz,-List.reduceReplicate,hck,Tryz.f17])
 ·have hlt':¬(k:Int)<L.length:=by omega
  rw[zy4 L fun j hj=>hall j hj (by omega)]at hck
  simp only at hck
  (simp (maxSteps:=2000000) (disch:=first|omega|assumption) [zz,-List.reduceReplicate,hlt',qX])
  refine hE _ _ (by simp) ?_
  (simp (maxSteps:=2000000) (disch:=first|omega|assumption) [zz,-List.reduceReplicate,hck,Tryz.f17])
end Go.Proofs.YthgocigdldgpgaaGreatDoor
end
section
set_option maxRecDepth 100000
namespace Go.Proofs.YthgocigdldgpgaaGreatDoor
open Go Go.Ab
open Classical
variable [Sel] [SelPow] [SelMax]
abbrev zyB:Cfg:=⟨fun _=>false,fun n=>n==1000005||n==2000051||n==2000054⟩
set_option maxHeartbeats 32000000 in
theorem zy2 (a:xW) (ks:List KnV) (m:KnV) (ha:vA a≤1000000000) (hk:knW ks≤1000000000) (hm1:m.path.length≤1000000000) (hm2:m.data.length≤1000000000) :
  PC Tryz.prog 8 [.av UI (kT a),.av (.slice 55) (zL ks),.av KnT (zH m)] (.av .bool (.b true)):=by
 have hke:(zL ks).er=zL ks:=YO ks
 have hme:(zH m).er=zH m:=(vU m).1
 have hae:=YB a
 have hgr:=d8 a ha
 have hmn:=P1 ks hk
 have hfx:=zvO
 have hall:=fun hab=>zwD a hab
 obtain⟨A,hA⟩:∃A,A=kT a:=⟨_,rfl⟩
 have hA5:A=.agg [.agg [.s a.pkg,.s a.name],.s a.tool,zS a.env,.sl .no (strs a.ins),.sl .no (strs a.asks),.sl .no (strs a.outs)]:=hA
 rw[←hA]at hgr hae hall ⊢
 refine PC.of <| q7.of_vc laid mixed Tryz.func8 rfl zyB (by kernel_rfl) (by simp[Tryz.ntmps8]) fun imm0 w0=>?_
 (simp (maxSteps:=2000000) (disch:=first|omega|assumption) [zz,-List.reduceReplicate])
 refine qL hgr rfl rfl (by simp) (by simp[qS,TV.er,hae]) ?_
 by_cases hg:2000<vA a
 ·(simp (maxSteps:=2000000) (disch:=first|omega|assumption) [zz,-List.reduceReplicate,hg])
  refine qL hfx rfl rfl (by simp) (by simp[qS,TV.er,AV.er]) ?_
  (simp (maxSteps:=2000000) (disch:=first|omega|assumption) [zz,-List.reduceReplicate,Tryz.f8])
 (simp (maxSteps:=2000000) (disch:=first|omega|assumption) [zz,-List.reduceReplicate,hg])
 refine qL hmn rfl rfl (by simp) (by simp[qS,TV.er,hke]) ?_
 by_cases h1:5000<knW ks
 ·(simp (maxSteps:=2000000) (disch:=first|omega|assumption) [zz,-List.reduceReplicate,h1])
  refine qL hfx rfl rfl (by simp) (by simp[qS,TV.er,AV.er]) ?_
  (simp (maxSteps:=2000000) (disch:=first|omega|assumption) [zz,-List.reduceReplicate,Tryz.f8])
 by_cases h2:300<m.path.length
 ·have h2':(300:Int)<m.path.length:=by omega
  (simp (maxSteps:=2000000) (disch:=first|omega|assumption) [zz,-List.reduceReplicate,h1,zH,h2'])
  refine qL hfx rfl rfl (by simp) (by simp[qS,TV.er,AV.er]) ?_
  (simp (maxSteps:=2000000) (disch:=first|omega|assumption) [zz,-List.reduceReplicate,Tryz.f8])
 have h2':¬(300:Int)<m.path.length:=by omega
 by_cases h3:300<m.data.length
 ·have h3':(300:Int)<m.data.length:=by omega
  (simp (maxSteps:=2000000) (disch:=first|omega|assumption) [zz,-List.reduceReplicate,h1,zH,h2',h3'])
  refine qL hfx rfl rfl (by simp) (by simp[qS,TV.er,AV.er]) ?_
  (simp (maxSteps:=2000000) (disch:=first|omega|assumption) [zz,-List.reduceReplicate,Tryz.f8])
 have h3':¬(300:Int)<m.data.length:=by omega
 have hab:=zbN (a:=a) (by omega)
 obtain⟨hkd,hkl⟩:=zgi (l:=ks) (by omega)
 have hkd2:∀k∈ks++[m],k.data.length≤65536:=fun k hk=>by
  rcases List.mem_append.1 hk with h|h
  ·exact hkd k h
  ·rw[List.mem_singleton.1 h];omega
 have hck:=zy8 a.tool hab.bt
 have ht1:=hall hab ks (by omega) hkd
 have ht2:=hall hab (ks++[m]) (by simp only[List.length_append,List.length_singleton];omega) hkd2
 have hee:AV.ers (ks.map zH)=ks.map zH:=by simp[AV.ers_eq,Function.comp_def,vU]
 have hF:((zvY a ks).2.2≠0∧(zvY a (ks++[m])).2.2=(zvY a ks).2.2)∨((DV a.tool).1=0∧∃b1 b2,zvY a ks=(zvg b1,(yD b1).1,0)∧zvY a (ks++[m])=(zvg b2,(yD b2).1,0)∧((yD b1).1.outs.length≤1000000000∧(yD b1).1.reads.length≤1000000000)∧((b1.over=true∨b1.asks≠m.path)→b2=b1)∧(b1.over=false→b1.asks=m.path→b2.over=true∨b2.asks≠m.path)):=by
  rcases ze5 a.tool with⟨cs,hcs,hce⟩|⟨e,n,hcs,hce,hne⟩
  ·right
   obtain⟨b1,b2,q1,q2,_,⟨kn,q4⟩,q5,q6⟩:=zyj hab hkd (m:=m) (by omega) hcs
   exact⟨by rw[hce],b1,b2,q1,q2,q4.outl hab.bo,q5,q6⟩
  ·left
   have e1:zvY a ks=(zv5,zvh,e):=by unfold zvY;rw[hcs]
   have e2:zvY a (ks++[m])=(zv5,zvh,e):=by unfold zvY;rw[hcs]
   rw[e1,e2]
   exact⟨hne,rfl⟩
 obtain⟨X1,hX1⟩:∃X1,X1=zvY a ks:=⟨_,rfl⟩
 obtain⟨X2,hX2⟩:∃X2,X2=zvY a (ks++[m]):=⟨_,rfl⟩
 obtain⟨c1,hc1⟩:∃c1,c1=(DV a.tool).1:=⟨_,rfl⟩
 rw[←hX1]at ht1
 rw[←hX2]at ht2
 rw[←hX1,←hX2,←hc1]at hF
 rw[←hc1]at hck
 obtain⟨w1,o1,e1⟩:=X1
 obtain⟨w2,o2,e2⟩:=X2
 simp only[Prod.mk.injEq]at hF
 unfold zvQ at ht1 ht2
 simp only at ht1 ht2
 clear hX1 hX2
 (simp (maxSteps:=2000000) (disch:=first|omega|assumption) [zz,-List.reduceReplicate,h1,zH,h2',h3',hA5])
 refine qL hck rfl rfl (by simp) (by simp[qS,TV.er,AV.er]) ?_
 (simp (maxSteps:=2000000) (disch:=first|omega|assumption) [zz,-List.reduceReplicate])
 rw[←hA5]
 refine qL ht1 rfl rfl (by simp) (by simp[qS,TV.er,AV.er,hae,hke]) ?_
 (simp (maxSteps:=2000000) (disch:=first|omega|assumption) [zz,-List.reduceReplicate,zL])
 refine jW.of [0,1,2,4,5,12,13,3,6,7,8,9,10,11,14,15,16] [0,1,2,4,5,12,13] (by kernel_rfl) ?_
 (simp (maxSteps:=2000000) (disch:=first|omega|assumption) [zz,-List.reduceReplicate])
 (repeat with_reducible refine om ?_)
 (simp (maxSteps:=2000000) (disch:=first|omega|assumption) [zz,-List.reduceReplicate,wB])
 (repeat with_reducible refine om ?_)
 refine jC ht2 rfl rfl (by simp) (by simp[qS,coC,TV.er,AV.er,AV.ers,AV.ers_eq,hae,zL,zH,Function.comp_def]) ?_
 rcases hF with⟨he1,he2⟩|⟨hc0,b1,b2,⟨rfl,rfl,rfl⟩,⟨rfl,rfl,rfl⟩,⟨bo,br⟩,hsame,hless⟩
 ·subst he2
  by_cases hc0:c1=0
  ·(simp (maxSteps:=2000000) (disch:=first|omega|assumption) [zz,-List.reduceReplicate,hc0,he1])
   (repeat with_reducible refine om ?_)
   refine qL hfx rfl rfl (by simp) (by simp[qS,TV.er,AV.er]) ?_
   (simp (maxSteps:=2000000) (disch:=first|omega|assumption) [zz,-List.reduceReplicate,Tryz.f8])
  ·(simp (maxSteps:=2000000) (disch:=first|omega|assumption) [zz,-List.reduceReplicate,hc0])
   (repeat with_reducible refine om ?_)
   refine qL hfx rfl rfl (by simp) (by simp[qS,TV.er,AV.er]) ?_
   (simp (maxSteps:=2000000) (disch:=first|omega|assumption) [zz,-List.reduceReplicate,Tryz.f8])
 have hso:∀o:zcy,o.outs.length≤1000000000→o.reads.length≤1000000000→PC Tryz.prog 20 [.av (qD Tryz.prog 41) (zI o),.av (qD Tryz.prog 41) (zI o)] (.av .bool (.b true)):=fun o h1 h2=>by
  have:=VG o o h1 h2 h1 h2
  rw[u5.2 rfl]at this
  exact this
 have hs1:=hso _ bo br
 have hoe:=KO (yD b1).1
 by_cases ho:b1.over=true
 ·obtain rfl:=hsame (.inl ho)
  have hw:zvg b2=zv5:=by unfold zvg;rw[if_pos ho]
  rw[hw]
  (simp (maxSteps:=2000000) (disch:=first|omega|assumption) [zz,-List.reduceReplicate,hc0,zv5])
  (repeat with_reducible refine om ?_)
  refine qL hs1 rfl rfl (by simp) (by simp[qS,TV.er,hoe]) ?_
  (simp (maxSteps:=2000000) (disch:=first|omega|assumption) [zz,-List.reduceReplicate])
  refine qL hfx rfl rfl (by simp) (by simp[qS,TV.er,AV.er]) ?_
  (simp (maxSteps:=2000000) (disch:=first|omega|assumption) [zz,-List.reduceReplicate,Tryz.f8])
 have ho':b1.over=false:=by simpa using ho
 have hw:zvg b1=zvN b1.asks:=by unfold zvg;rw[if_neg ho]
 by_cases hp:b1.asks=m.path
 rotate_left
 ·obtain rfl:=hsame (.inr hp)
  rw[hw]
  (simp (maxSteps:=2000000) (disch:=first|omega|assumption) [zz,-List.reduceReplicate,hc0,zvN,hp])
  (repeat with_reducible refine om ?_)
  refine qL hs1 rfl rfl (by simp) (by simp[qS,TV.er,hoe]) ?_
  (simp (maxSteps:=2000000) (disch:=first|omega|assumption) [zz,-List.reduceReplicate])
  refine qL hfx rfl rfl (by simp) (by simp[qS,TV.er,AV.er]) ?_
  (simp (maxSteps:=2000000) (disch:=first|omega|assumption) [zz,-List.reduceReplicate,Tryz.f8])
 rw[hw]
 by_cases ho2:b2.over=true
 ·have hw2:zvg b2=zv5:=by unfold zvg;rw[if_pos ho2]
  rw[hw2]
  (simp (maxSteps:=2000000) (disch:=first|omega|assumption) [zz,-List.reduceReplicate,hc0,zvN,zv5,hp])
  (repeat with_reducible refine om ?_)
  refine qL hfx rfl rfl (by simp) (by simp[qS,TV.er,AV.er]) ?_
  (simp (maxSteps:=2000000) (disch:=first|omega|assumption) [zz,-List.reduceReplicate,Tryz.f8])
 ·have hp2:=(hless ho' hp).resolve_left ho2
  have hw2:zvg b2=zvN b2.asks:=by unfold zvg;rw[if_neg ho2]
  rw[hw2]
  (simp (maxSteps:=2000000) (disch:=first|omega|assumption) [zz,-List.reduceReplicate,hc0,zvN,hp,hp2])
  (repeat with_reducible refine om ?_)
  refine qL hfx rfl rfl (by simp) (by simp[qS,TV.er,AV.er]) ?_
  (simp (maxSteps:=2000000) (disch:=first|omega|assumption) [zz,-List.reduceReplicate,Tryz.f8])
end Go.Proofs.YthgocigdldgpgaaGreatDoor
end
section
set_option maxRecDepth 100000
namespace Go.Proofs.YthgocigdldgpgaaGreatDoor
open Go Go.Ab
open Classical
variable [Sel]
theorem DU {α:Type} {f:α→AV} {q:AV→Prop} {r:α→Prop} {xs:List AV} (h:∀y∈xs,q y) (hd:∀y,q y→∃a,y=f a∧r a):∃l:List α,xs=l.map f∧∀a∈l,r a:=by
 induction xs with
 | nil=>exact⟨[],rfl,by simp⟩
 | cons y ys ih =>
  obtain⟨a,ha,hr⟩:=hd y (h y (by simp))
  obtain⟨l,hl,hl2⟩:=ih fun z hz=>h z (by simp[hz])
  exact⟨a::l,by simp[ha,hl],by simpa using⟨hr,hl2⟩⟩
end Go.Proofs.YthgocigdldgpgaaGreatDoor
end
