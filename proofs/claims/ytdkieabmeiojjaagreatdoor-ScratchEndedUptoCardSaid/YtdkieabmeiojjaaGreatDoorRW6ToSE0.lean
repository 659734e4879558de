/- The document's commands; a text checked. No condition. -/
import Derived.Test.YtdkieabmeiojjaaGreatDoorHM1ToRW5
set_option linter.unusedSimpArgs false
set_option linter.unusedVariables false
set_option linter.unusedSectionVars false
set_option maxHeartbeats 64000000
set_option maxRecDepth 100000
namespace Go.Proofs.YtdkieabmeiojjaaGreatDoor
open Go Go.Ab
open Classical
section
variable [Sel] [SelPow] [SelMax]
theorem zsb (w:Txt) (ws:List Txt) (hl:ws.length<=1000000000) (hw:∀x∈ws,x.length<=1000000000):PC Tryz.prog 95 [.av (.slice 9) (.sl .no (strs (w::ws)))] (.av .bool (.b (zph w ws))):=by
 have h0:ws=[]\/(∃x,ws=[x])\/(∃x y,ws=[x,y])\/∃x y z r,ws=x::y::z::r:=by
  rcases ws with _|⟨x,_|⟨y,_|⟨z,r⟩⟩⟩
  ·exact .inl rfl
  ·exact .inr (.inl ⟨x,rfl⟩)
  ·exact .inr (.inr (.inl ⟨x,y,rfl⟩))
  ·exact .inr (.inr (.inr ⟨x,y,z,r,rfl⟩))
 have hr:∀r:List Txt,¬(r.length:Int)+1+1+1+1=2:=fun r=>by omega
 have hr3:∀r:List Txt,¬(r.length:Int)+1+1+1+1=3:=fun r=>by omega
 have hr1:∀r:List Txt,¬(r.length:Int)+1+1+1+1=1:=fun r=>by omega
 have hr0:∀r:List Txt,(0:Int)<(r.length:Int)+1+1+1+1:=fun r=>by omega
 refine zow Tryz.func95 cf0 fun imm0 w0=>?_
 by_cases hText:w=jZ
 ·subst hText
  simp (disch:=omega) [zz,strs,zph,jZ,Tryz.f95]
 by_cases hRead:w=zU
 ·subst hRead
  rcases h0 with rfl|⟨x,rfl⟩|⟨x,y,rfl⟩|⟨x,y,z,r,rfl⟩
  ·simp (disch:=omega) [zz,strs,zph,jZ,zU,wF,jN,jM,Q3,y3,kF,wV,yG,kV,wC,QF,Tryz.f95]
  ·have hm:=zqQ x (hw x (by simp))
   simp (disch:=omega) [zz,strs,jZ,zU,wF,jN,jM,Q3,y3,kF,wV,yG,kV,wC,QF]
   refine zcv hm ?_
   simp (disch:=omega) [zz,zph,jZ,zU,wF,jN,jM,Q3,y3,kF,wV,yG,kV,wC,QF,Tryz.f95]
  ·simp (disch:=omega) [zz,strs,zph,jZ,zU,wF,jN,jM,Q3,y3,kF,wV,yG,kV,wC,QF,Tryz.f95]
  ·simp (disch:=omega) [zz,strs,hr,hr0,zph,jZ,zU,wF,jN,jM,Q3,y3,kF,wV,yG,kV,wC,QF,Tryz.f95]
 by_cases hTry:w=wF
 ·subst hTry
  rcases h0 with rfl|⟨x,rfl⟩|⟨x,y,rfl⟩|⟨x,y,z,r,rfl⟩
  ·simp (disch:=omega) [zz,strs,zph,jZ,zU,wF,jN,jM,Q3,y3,kF,wV,yG,kV,wC,QF,Tryz.f95]
  ·have hm:=zqQ x (hw x (by simp))
   simp (disch:=omega) [zz,strs,jZ,zU,wF,jN,jM,Q3,y3,kF,wV,yG,kV,wC,QF]
   refine zcv hm ?_
   simp (disch:=omega) [zz,zph,jZ,zU,wF,jN,jM,Q3,y3,kF,wV,yG,kV,wC,QF,Tryz.f95]
  ·simp (disch:=omega) [zz,strs,zph,jZ,zU,wF,jN,jM,Q3,y3,kF,wV,yG,kV,wC,QF,Tryz.f95]
  ·simp (disch:=omega) [zz,strs,hr,hr0,zph,jZ,zU,wF,jN,jM,Q3,y3,kF,wV,yG,kV,wC,QF,Tryz.f95]
 by_cases hWrite:w=jN
 ·subst hWrite
  rcases h0 with rfl|⟨x,rfl⟩|⟨x,y,rfl⟩|⟨x,y,z,r,rfl⟩
  ·simp (disch:=omega) [zz,strs,zph,jZ,zU,wF,jN,jM,Q3,y3,kF,wV,yG,kV,wC,QF,Tryz.f95]
  ·have hm:=zqQ x (hw x (by simp))
   simp (disch:=omega) [zz,strs,jZ,zU,wF,jN,jM,Q3,y3,kF,wV,yG,kV,wC,QF]
   refine zcv hm ?_
   simp (disch:=omega) [zz,zph,jZ,zU,wF,jN,jM,Q3,y3,kF,wV,yG,kV,wC,QF,Tryz.f95]
  ·simp (disch:=omega) [zz,strs,zph,jZ,zU,wF,jN,jM,Q3,y3,kF,wV,yG,kV,wC,QF,Tryz.f95]
  ·simp (disch:=omega) [zz,strs,hr,hr0,zph,jZ,zU,wF,jN,jM,Q3,y3,kF,wV,yG,kV,wC,QF,Tryz.f95]
 by_cases hScan:w=jM
 ·subst hScan
  rcases h0 with rfl|⟨x,rfl⟩|⟨x,y,rfl⟩|⟨x,y,z,r,rfl⟩
  ·simp (disch:=omega) [zz,strs,zph,jZ,zU,wF,jN,jM,Q3,y3,kF,wV,yG,kV,wC,QF,Tryz.f95]
  ·simp (disch:=omega) [zz,strs,zph,jZ,zU,wF,jN,jM,Q3,y3,kF,wV,yG,kV,wC,QF,Tryz.f95]
  ·have hm:=zqQ x (hw x (by simp))
   simp (disch:=omega) [zz,strs,jZ,zU,wF,jN,jM,Q3,y3,kF,wV,yG,kV,wC,QF]
   refine zcv hm ?_
   simp (disch:=omega) [zz,zph,jZ,zU,wF,jN,jM,Q3,y3,kF,wV,yG,kV,wC,QF,Tryz.f95]
  ·simp (disch:=omega) [zz,strs,hr3,hr0,zph,jZ,zU,wF,jN,jM,Q3,y3,kF,wV,yG,kV,wC,QF,Tryz.f95]
 by_cases hEnv:w=Q3
 ·subst hEnv
  rcases h0 with rfl|⟨x,rfl⟩|⟨x,y,rfl⟩|⟨x,y,z,r,rfl⟩
  ·simp (disch:=omega) [zz,strs,zph,jZ,zU,wF,jN,jM,Q3,y3,kF,wV,yG,kV,wC,QF,Tryz.f95]
  ·simp (disch:=omega) [zz,strs,zph,jZ,zU,wF,jN,jM,Q3,y3,kF,wV,yG,kV,wC,QF,Tryz.f95]
  ·simp (disch:=omega) [zz,strs,zph,jZ,zU,wF,jN,jM,Q3,y3,kF,wV,yG,kV,wC,QF,Tryz.f95]
  ·simp (disch:=omega) [zz,strs,hr,hr1,hr0,zph,jZ,zU,wF,jN,jM,Q3,y3,kF,wV,yG,kV,wC,QF,Tryz.f95]
 by_cases hKeep:w=y3
 ·subst hKeep
  rcases h0 with rfl|⟨x,rfl⟩|⟨x,y,rfl⟩|⟨x,y,z,r,rfl⟩
  ·simp (disch:=omega) [zz,strs,zph,jZ,zU,wF,jN,jM,Q3,y3,kF,wV,yG,kV,wC,QF,Tryz.f95]
  ·simp (disch:=omega) [zz,strs,zph,jZ,zU,wF,jN,jM,Q3,y3,kF,wV,yG,kV,wC,QF,Tryz.f95]
  ·simp (disch:=omega) [zz,strs,zph,jZ,zU,wF,jN,jM,Q3,y3,kF,wV,yG,kV,wC,QF,Tryz.f95]
  ·simp (disch:=omega) [zz,strs,hr,hr1,hr0,zph,jZ,zU,wF,jN,jM,Q3,y3,kF,wV,yG,kV,wC,QF,Tryz.f95]
 by_cases hNeed:w=kF
 ·subst hNeed
  rcases h0 with rfl|⟨x,rfl⟩|⟨x,y,rfl⟩|⟨x,y,z,r,rfl⟩
  ·simp (disch:=omega) [zz,strs,zph,jZ,zU,wF,jN,jM,Q3,y3,kF,wV,yG,kV,wC,QF,Tryz.f95]
  ·simp (disch:=omega) [zz,strs,zph,jZ,zU,wF,jN,jM,Q3,y3,kF,wV,yG,kV,wC,QF,Tryz.f95]
  ·simp (disch:=omega) [zz,strs,zph,jZ,zU,wF,jN,jM,Q3,y3,kF,wV,yG,kV,wC,QF,Tryz.f95]
  ·simp (disch:=omega) [zz,strs,hr,hr1,hr0,zph,jZ,zU,wF,jN,jM,Q3,y3,kF,wV,yG,kV,wC,QF,Tryz.f95]
 by_cases hSort:w=wV
 ·subst hSort
  rcases h0 with rfl|⟨x,rfl⟩|⟨x,y,rfl⟩|⟨x,y,z,r,rfl⟩
  ·simp (disch:=omega) [zz,strs,zph,jZ,zU,wF,jN,jM,Q3,y3,kF,wV,yG,kV,wC,QF,Tryz.f95]
  ·simp (disch:=omega) [zz,strs,zph,jZ,zU,wF,jN,jM,Q3,y3,kF,wV,yG,kV,wC,QF,Tryz.f95]
  ·simp (disch:=omega) [zz,strs,zph,jZ,zU,wF,jN,jM,Q3,y3,kF,wV,yG,kV,wC,QF,Tryz.f95]
  ·simp (disch:=omega) [zz,strs,hr,hr1,hr0,zph,jZ,zU,wF,jN,jM,Q3,y3,kF,wV,yG,kV,wC,QF,Tryz.f95]
 by_cases hUniq:w=yG
 ·subst hUniq
  rcases h0 with rfl|⟨x,rfl⟩|⟨x,y,rfl⟩|⟨x,y,z,r,rfl⟩
  ·simp (disch:=omega) [zz,strs,zph,jZ,zU,wF,jN,jM,Q3,y3,kF,wV,yG,kV,wC,QF,Tryz.f95]
  ·simp (disch:=omega) [zz,strs,zph,jZ,zU,wF,jN,jM,Q3,y3,kF,wV,yG,kV,wC,QF,Tryz.f95]
  ·simp (disch:=omega) [zz,strs,zph,jZ,zU,wF,jN,jM,Q3,y3,kF,wV,yG,kV,wC,QF,Tryz.f95]
  ·simp (disch:=omega) [zz,strs,hr,hr1,hr0,zph,jZ,zU,wF,jN,jM,Q3,y3,kF,wV,yG,kV,wC,QF,Tryz.f95]
 by_cases hUpper:w=kV
 ·subst hUpper
  rcases h0 with rfl|⟨x,rfl⟩|⟨x,y,rfl⟩|⟨x,y,z,r,rfl⟩
  ·simp (disch:=omega) [zz,strs,zph,jZ,zU,wF,jN,jM,Q3,y3,kF,wV,yG,kV,wC,QF,Tryz.f95]
  ·simp (disch:=omega) [zz,strs,zph,jZ,zU,wF,jN,jM,Q3,y3,kF,wV,yG,kV,wC,QF,Tryz.f95]
  ·simp (disch:=omega) [zz,strs,zph,jZ,zU,wF,jN,jM,Q3,y3,kF,wV,yG,kV,wC,QF,Tryz.f95]
  ·simp (disch:=omega) [zz,strs,hr,hr1,hr0,zph,jZ,zU,wF,jN,jM,Q3,y3,kF,wV,yG,kV,wC,QF,Tryz.f95]
 by_cases hCount:w=wC
 ·subst hCount
  rcases h0 with rfl|⟨x,rfl⟩|⟨x,y,rfl⟩|⟨x,y,z,r,rfl⟩
  ·simp (disch:=omega) [zz,strs,zph,jZ,zU,wF,jN,jM,Q3,y3,kF,wV,yG,kV,wC,QF,Tryz.f95]
  ·simp (disch:=omega) [zz,strs,zph,jZ,zU,wF,jN,jM,Q3,y3,kF,wV,yG,kV,wC,QF,Tryz.f95]
  ·simp (disch:=omega) [zz,strs,zph,jZ,zU,wF,jN,jM,Q3,y3,kF,wV,yG,kV,wC,QF,Tryz.f95]
  ·simp (disch:=omega) [zz,strs,hr,hr1,hr0,zph,jZ,zU,wF,jN,jM,Q3,y3,kF,wV,yG,kV,wC,QF,Tryz.f95]
 by_cases hFail:w=QF
 ·subst hFail
  rcases h0 with rfl|⟨x,rfl⟩|⟨x,y,rfl⟩|⟨x,y,z,r,rfl⟩
  ·simp (disch:=omega) [zz,strs,zph,jZ,zU,wF,jN,jM,Q3,y3,kF,wV,yG,kV,wC,QF,Tryz.f95]
  ·simp (disch:=omega) [zz,strs,zph,jZ,zU,wF,jN,jM,Q3,y3,kF,wV,yG,kV,wC,QF,Tryz.f95]
  ·simp (disch:=omega) [zz,strs,zph,jZ,zU,wF,jN,jM,Q3,y3,kF,wV,yG,kV,wC,QF,Tryz.f95]
  ·simp (disch:=omega) [zz,strs,hr,hr1,hr0,zph,jZ,zU,wF,jN,jM,Q3,y3,kF,wV,yG,kV,wC,QF,Tryz.f95]
 have kText:¬w=[116,101,120,116]:=hText
 have kRead:¬w=[114,101,97,100]:=hRead
 have kTry:¬w=[116,114,121]:=hTry
 have kWrite:¬w=[119,114,105,116,101]:=hWrite
 have pL:¬w=[115,99,97,110]:=hScan
 have kEnv:¬w=[101,110,118]:=hEnv
 have kKeep:¬w=[107,101,101,112]:=hKeep
 have kNeed:¬w=[110,101,101,100]:=hNeed
 have kSort:¬w=[115,111,114,116]:=hSort
 have kUniq:¬w=[117,110,105,113]:=hUniq
 have kUpper:¬w=[117,112,112,101,114]:=hUpper
 have kCount:¬w=[99,111,117,110,116]:=hCount
 have kFail:¬w=[102,97,105,108]:=hFail
 have hv:zph w ws=false:=by simp[zph,hText,hRead,hTry,hWrite,hScan,hEnv,hKeep,hNeed,hSort,hUniq,hUpper,hCount,hFail]
 simp (disch:=omega) [zz,strs,kText,kRead,kTry,kWrite,pL,kEnv,kKeep,kNeed,kSort,kUniq,kUpper,kCount,kFail,hv,Tryz.f95]
theorem zsp:∀(l:List Txt) (i:Nat) (hi:i<l.length),(∀j (hj:j<i),VJ (zG (l[j]'(by omega)))=true)->VJ (zG l[i])=false->zcX l=some (i+1)
 | [],i,hi,_,_=>by simp at hi
 | s::r,0,hi,_,h=>by
  have h':VJ (zG s)=false:=h
  rw[zcX,if_neg (by rw[h'];decide)]
 | s::r,i+1,hi,hg,h=>by
  have h0:VJ (zG s)=true:=hg 0 (by omega)
  have hi2:i<r.length:=by simpa using hi
  have ih:=zsp r i hi2 (fun j hj=>hg (j+1) (by omega)) h
  rw[zcX,if_pos h0,ih];rfl
theorem zrH:∀(l:List Txt),(∀j (hj:j<l.length),VJ (zG l[j])=true)->zcX l=none
 | [],_=>rfl
 | s::r,hg=>by
  have h0:VJ (zG s)=true:=hg 0 (by simp)
  have ih:=zrH r fun j hj=>hg (j+1) (by simpa using hj)
  rw[zcX,if_pos h0,ih];rfl
theorem zqW:∀(l x:List UInt8),x∈zqN l->x.length<=l.length
 | [],x,h=>by simp[zqN]at h
 | b::l,x,h=>by
  rw[zqN]at h
  split at h
  ·rcases List.mem_cons.1 h with rfl|h
   ·simp
   ·have:=zqW l x h;simp only[List.length_cons];omega
  ·split at h
   ·rw[List.mem_singleton.1 h];simp
   ·rename_i y r hy
    rcases List.mem_cons.1 h with rfl|h
    ·have:=zqW l y (by rw[hy];simp);simp only[List.length_cons];omega
    ·have:=zqW l x (by rw[hy];simp[h]);simp only[List.length_cons];omega
theorem zrY (t:Txt) (ht:t.length<=1000000):PC Tryz.prog 62 [.av .str (.s t)] (.tup [(.int .i64,.i .i64 (DG t).1),(.int .i64,.i .i64 (DG t).2)]):=by
 have hll:=ZU t
 have hlm:∀x∈qU t,x.length<=1000000:=fun x hx=>by
  rw[zrZ]at hx
  have:=zqW t x hx
  omega
 have hrl:=zsv t (by omega)
 have hck:DG t=if 65536<t.length\/400<(qU t).length then((6:Int),(0:Int)) else match zcX (qU t)with
  | some n=>((3:Int),(n:Int))
  | none=>((0:Int),(0:Int)):=rfl
 obtain⟨L,hL⟩:∃L,L=qU t:=⟨_,rfl⟩
 rw[<-hL]at hll hlm hrl hck
 refine zow Tryz.func62 cf0 fun imm0 w0=>?_
 simp (disch:=omega) [zz]
 refine zcv hrl ?_
 by_cases h1:65536<t.length
 ·have h1':(65536:Int)<t.length:=by omega
  rw[if_pos (.inl h1)]at hck
  simp (disch:=omega) [zz,h1',hck,Tryz.f62]
 have h1':¬(65536:Int)<t.length:=by omega
 by_cases h2:400<L.length
 ·have h2':(400:Int)<L.length:=by omega
  rw[if_pos (.inr h2)]at hck
  simp (disch:=omega) [zz,h1',jS,h2',hck,Tryz.f62]
 have h2':¬(400:Int)<L.length:=by omega
 rw[if_neg (by omega)]at hck
 simp (disch:=omega) [zz,h1',jS,h2']
 refine AT.loop' (α:=Nat) (fun k=>St.of [(4,.av (.slice 9) (.sl .no (strs L))),(5,.av (.int .i64) (.i .i64 k))] [] (fun _=>0) [])
  (fun k=>k<=L.length/\∀j (h:j<L.length),j<k->VJ (zG L[j])=true) (fun k=>L.length-k) 0 ?_ ?_ ?_
 ·apply Le.of<;>simp[zR,qI,z6]<;>try omega
 ·exact⟨by omega,fun j h hj=>by omega⟩
 rintro k ⟨hk,hall⟩ KL hN hE
 refine zrd cf0 ?_
 by_cases hlt:k<L.length
 ·have hlt':(k:Int)<L.length:=by omega
  have hg:=xM L k hlt
  have hxl:=hlm _ (List.getElem_mem hlt)
  have hba:=zsp L k hlt fun j hj=>hall j (by omega) hj
  have hgo:∀h:VJ (zG L[k])=true,∀j (hj:j<L.length),j<k+1->VJ (zG L[j])=true:=fun h j hj hjk=>by
   rcases Nat.lt_or_ge j k with h'|h'
   ·exact hall j hj h'
   ·obtain rfl:j=k:=by omega
    exact h
  obtain⟨x,hx⟩:∃x,x=L[k]:=⟨_,rfl⟩
  rw[<-hx]at hg hxl hba hgo
  have hwd:=zsE x hxl
  have hwe:∀w∈zG x,w≠[]/\w.length<=1000000:=fun w hw=>by
   have:=ZV hw
   exact⟨this.1,by have:=this.2;simp at this;omega⟩
  have hwl:(zG x).length<=1000001:=Nat.le_trans UD (by omega)
  simp (disch:=omega) [zz,hlt',hg,jS]
  refine zcv hwd ?_
  obtain⟨ws,hws⟩:∃ws,ws=zG x:=⟨_,rfl⟩
  rw[<-hws]at hwe hwl hba hgo |-
  have hpa:=zsc ws (fun w hw=>(hwe w hw).1) (by omega)
  simp (disch:=omega) [zz]
  refine zcv hpa ?_
  cases hp:G7 ws with
  | true =>
   have hgd:VJ ws=true:=by unfold VJ;rw[hp];rfl
   simp (disch:=omega) [zz]
   refine hN _ (k+1) ?_ ⟨by omega,hgo hgd⟩ (by omega)
   apply Le.of<;>simp[zR,qI,z6]<;>try omega
  | false =>
   cases ws with
   | nil=>cases hp
   | cons w ws =>
    have hcm:=zsb w ws (by simp only[List.length_cons]at hwl;omega) fun y hy=>by have:=(hwe y (by simp[hy])).2;omega
    simp (disch:=omega) [zz]
    refine zcv hcm ?_
    cases hc:zph w ws with
    | true =>
     have hgd:VJ (w::ws)=true:=by unfold VJ;rw[hp];exact hc
     simp (disch:=omega) [zz]
     refine hN _ (k+1) ?_ ⟨by omega,hgo hgd⟩ (by omega)
     apply Le.of<;>simp[zR,qI,z6]<;>try omega
    | false =>
     have hgd:VJ (w::ws)=false:=by unfold VJ;rw[hp];exact hc
     rw[hba hgd]at hck
     simp only at hck
     simp (disch:=omega) [zz]
     refine hE _ _ (by simp) ?_
     simp (disch:=omega) [zz,hck,Tryz.f62]
 ·have hlt':¬(k:Int)<L.length:=by omega
  rw[zrH L fun j hj=>hall j hj (by omega)]at hck
  simp only at hck
  simp (disch:=omega) [zz,hlt',jS]
  refine hE _ _ (by simp) ?_
  simp (disch:=omega) [zz,hck,Tryz.f62]
theorem zs2 (l:List Txt) (x:Txt) (hn:l.length<=1000000000):PC Tryz.prog 64 [.av (.slice 9) (.sl .no (strs l)),.av .str (.s x)] (.av .bool (.b (decide (x∈l)))):=by
 have hsl:=jS l
 refine zow Tryz.func64 cf0 fun imm0 w0=>?_
 simp (disch:=omega) [zz,hsl]
 refine AT.loop' (α:=Nat) (fun k=>St.of [(0,.av (.slice 9) (.sl .no (strs l))),(1,.av .str (.s x)),(7,.av (.int .i64) (.i .i64 l.length)),(8,.av (.int .i64) (.i .i64 k))] [] (fun _=>0) [])
  (fun k=>k<=l.length/\x∉l.take k) (fun k=>l.length-k) 0 ?_ ?_ ?_
 ·apply Le.of<;>simp[zR,qI,z6]<;>try omega
 ·exact⟨by omega,by simp⟩
 rintro k ⟨hk,hno⟩ KL hN hE
 refine zrd cf0 ?_
 by_cases hlt:k<l.length
 ·have hlt':(k:Int)<l.length:=by omega
  have hg:=xM l k hlt
  have hg2:(strs l)[k]'(by rw[hsl];exact hlt)=.s l[k]:=by simp[strs]
  by_cases hx:l[k]=x
  ·have hm:x∈l:=by rw[<-hx];exact List.getElem_mem hlt
   simp (disch:=omega) [zz,hlt',hg,hg2,hx,hsl]
   refine hE _ _ (by simp) ?_
   simp (disch:=omega) [zz,Tryz.f64,hm]
  ·simp (disch:=omega) [zz,hlt',hg,hg2,hx,hsl]
   refine hN _ (k+1) ?_ ⟨by omega,?_⟩ (by omega)
   ·apply Le.of<;>simp[zR,qI,z6]<;>try omega
   ·rw[List.take_succ_eq_append_getElem hlt,List.mem_append,not_or]
    exact⟨hno,fun h=>hx (List.mem_singleton.1 h).symm⟩
 ·have hlt':¬(k:Int)<l.length:=by omega
  rw[List.take_of_length_le (by omega)]at hno
  simp (disch:=omega) [zz,hlt',hsl]
  refine hE _ _ (by simp) ?_
  simp (disch:=omega) [zz,Tryz.f64,hno]
theorem zqZ {α:Type} {P:Nat->α->Prop} {l:List α} {k:Nat} {hk:k<l.length} (h0:P k l[k]) (h:∀j (h:j<l.length),j<k->P j l[j]):∀j (h:j<l.length),j<k+1->P j l[j]:=fun j hj h3=>by
 by_cases h4:j=k
 ·subst h4;exact h0
 ·exact h j hj (by omega)
theorem zsd {g:Txt->Bool} {l:List Txt} (h:∀j (hj:j<l.length),j<l.length->g l[j]=true):¬l.any (fun p=>!g p)=true:=by
 simp only[List.any_eq_true,not_exists,not_and]
 intro p hp
 obtain⟨j,hj,rfl⟩:=List.getElem_of_mem hp
 simp[h j hj hj]
theorem zsa (t:Txt):Y3 t=DG t:=by
 unfold Y3
 rcases zeC t with⟨cs,h,h2⟩|⟨e,n,h,h2,_⟩
 ·rw[h,h2]
 ·rw[h,h2]
theorem zsl:∀(k:Nat) (L outs:List Txt) (h:k<outs.length),outs[k]∈L++outs.take k->dN L outs=true
 | _,_,[],h,_=>by simp at h
 | 0,L,p::r,_,hm=>by
  unfold dN
  rw[if_pos (by simpa using hm)]
 | k+1,L,p::r,h,hm=>by
  unfold dN
  split
  ·rfl
  ·exact zsl k (L++[p]) r (by simpa using h) (by simpa using hm)
theorem zrG:∀(L outs:List Txt),(∀k (h:k<outs.length),outs[k]∉L++outs.take k)->dN L outs=false
 | _,[],_=>rfl
 | L,p::r,h=>by
  unfold dN
  have h0:=h 0 (by simp)
  rw[if_neg (by simpa using h0)]
  exact zrG (L++[p]) r fun k hk=>by
   have:=h (k+1) (by simpa using hk)
   simpa using this
theorem zsz (a:QT) (ha:zoy a) (L:List Txt) (hL:L.length<=1000000000):PC Tryz.prog 43 [.av zl3 (wW a),.av (.slice 9) (.sl .no (strs L))] (.av (.int .i64) (.i .i64 (pF a L))):=by
 have hck:=zrY a.tool ha.b.bt
 rw[<-zsa]at hck
 have hso:=jS a.outs
 have hsi:=jS a.ins
 have hsa:=jS a.asks
 have hbo:=ha.b.bo
 have hbi:=ha.b.bi
 have hba:=ha.b.ba
 obtain⟨A,hA⟩:∃A,A=wW a:=⟨_,rfl⟩
 have hAE:A=.agg [.agg [.s a.pkg,.s a.name],.s a.tool,zO a.env,.sl .no (strs a.ins),.sl .no (strs a.asks),.sl .no (strs a.outs)]:=hA
 obtain⟨V,hV⟩:∃V,V=pF a L:=⟨_,rfl⟩
 rw[<-hV,<-hA]
 unfold pF at hV
 refine zow Tryz.func43 cf0 fun imm0 w0=>?_
 simp (disch:=omega) [zz,hAE]
 refine zcv hck ?_
 by_cases h1:(Y3 a.tool).1=0
 rotate_left
 ·rw[if_pos h1]at hV
  simp (disch:=omega) [zz,h1,hV,Tryz.f43]
 rw[if_neg (by simp[h1])]at hV
 by_cases h2:a.outs.length=0
 ·have:a.outs=[]:=List.eq_nil_of_length_eq_zero h2
  rw[if_pos (.inl this)]at hV
  simp (disch:=omega) [zz,h1,hso,this,hV,Tryz.f43]
 have h2e:¬a.outs=[]:=fun e=>h2 (by rw[e];rfl)
 have hAe:A.er=A:=by rw[hA];exact pC a
 simp (disch:=omega) [zz,h1,hso,h2e]
 refine AT.loop' (α:=Nat) (fun k=>St.of [(1,.av (.slice 9) (.sl .no (strs L))),(2,.loc 2 []),(26,.av (.int .i64) (.i .i64 a.outs.length)),(27,.av (.int .i64) (.i .i64 k))] [(2,(zl3,A))] (fun _=>0) [])
  (fun k=>k<=a.outs.length/\∀j (h:j<a.outs.length),j<k->Z8 a.outs[j] YR=true) (fun k=>a.outs.length-k) 0 ?_ ⟨by omega,fun j _ h=>by omega⟩ ?_
 ·apply Le.of<;>simp[zR,qI,z6,hAE]<;>try omega
 rintro k ⟨hk,hall⟩ KL hN hE
 refine zrd cf0 ?_
 by_cases hlt:k<a.outs.length
 ·have hlt':(k:Int)<a.outs.length:=by omega
  have hg:=xM a.outs k hlt
  have hg2:(strs a.outs)[k]'(by rw[hso];exact hlt)=.s a.outs[k]:=by simp[strs]
  have hpl:=ha.o _ (List.getElem_mem hlt)
  have hun:=zrf YR (by decide) a.outs[k].length a.outs[k] (Nat.le_refl _) (by omega)
  have hbad:Z8 a.outs[k] YR=false->V=1:=fun h=>by
   rw[hV,if_pos (.inr (.inl (List.any_eq_true.2 ⟨_,List.getElem_mem hlt,by simp[h]⟩)))]
  have hal:Z8 a.outs[k] YR=true->∀j (h:j<a.outs.length),j<k+1->Z8 a.outs[j] YR=true:=fun h0=>zqZ (P:=fun j p=>Z8 p YR=true) h0 hall
  generalize a.outs[k]=p at *
  rw[show YR=[111,117,116] from rfl]at hun hbad
  simp (disch:=omega) [zz,hlt',hg,hg2,hso,hAE]
  refine qO hun rfl rfl (by simp) (by simp[qR,coC,TV.er,AV.er]) ?_
  cases hu:Z8 p [111,117,116]with
  | false =>
   simp (disch:=omega) [zz,hu]
   refine hE _ _ (by simp) ?_
   simp (disch:=omega) [zz,hbad hu,Tryz.f43]
  | true =>
   simp (disch:=omega) [zz,hu]
   refine hN _ (k+1) ?_ ⟨by omega,hal hu⟩ (by omega)
   apply Le.of<;>simp[zR,qI,z6,hAE]<;>try omega
 have hkn:k=a.outs.length:=by omega
 subst hkn
 have hlt':¬(a.outs.length:Int)<a.outs.length:=by omega
 simp (disch:=omega) [zz,hlt']
 refine hE _ _ (by simp) ?_
 clear hN hE
 simp (disch:=omega) [zz,hAE,hsi]
 refine AT.loop' (α:=Nat) (fun k=>St.of [(1,.av (.slice 9) (.sl .no (strs L))),(2,.loc 2 []),(40,.av (.int .i64) (.i .i64 a.ins.length)),(41,.av (.int .i64) (.i .i64 k))] [(2,(zl3,A))] (fun _=>0) [])
  (fun k=>k<=a.ins.length/\∀j (h:j<a.ins.length),j<k->w5 a.ins[j]=true) (fun k=>a.ins.length-k) 0 ?_ ⟨by omega,fun j _ h=>by omega⟩ ?_
 ·apply Le.of<;>simp[zR,qI,z6,hAE]<;>try omega
 rintro k ⟨hk,hall2⟩ KL hN hE
 refine zrd cf0 ?_
 by_cases hlt:k<a.ins.length
 ·have hlt':(k:Int)<a.ins.length:=by omega
  have hg:=xM a.ins k hlt
  have hg2:(strs a.ins)[k]'(by rw[hsi];exact hlt)=.s a.ins[k]:=by simp[strs]
  have hpl:=ha.i _ (List.getElem_mem hlt)
  have hun:=zqQ a.ins[k] (by omega)
  have hbad:w5 a.ins[k]=false->V=1:=fun h=>by
   rw[hV,if_pos (.inr (.inr (.inl (List.any_eq_true.2 ⟨_,List.getElem_mem hlt,by simp[h]⟩))))]
  have hal:w5 a.ins[k]=true->∀j (h:j<a.ins.length),j<k+1->w5 a.ins[j]=true:=fun h0=>zqZ (P:=fun j p=>w5 p=true) h0 hall2
  generalize a.ins[k]=p at *
  simp (disch:=omega) [zz,hlt',hg,hg2,hsi,hAE]
  refine qO hun rfl rfl (by simp) (by simp[qR,coC,TV.er,AV.er]) ?_
  cases hu:w5 p with
  | false =>
   simp (disch:=omega) [zz,hu]
   refine hE _ _ (by simp) ?_
   simp (disch:=omega) [zz,hbad hu,Tryz.f43]
  | true =>
   simp (disch:=omega) [zz,hu]
   refine hN _ (k+1) ?_ ⟨by omega,hal hu⟩ (by omega)
   apply Le.of<;>simp[zR,qI,z6,hAE]<;>try omega
 have hkn:k=a.ins.length:=by omega
 subst hkn
 have hlt':¬(a.ins.length:Int)<a.ins.length:=by omega
 simp (disch:=omega) [zz,hlt']
 refine hE _ _ (by simp) ?_
 clear hN hE
 simp (disch:=omega) [zz,hAE,hsa]
 refine AT.loop' (α:=Nat) (fun k=>St.of [(1,.av (.slice 9) (.sl .no (strs L))),(2,.loc 2 []),(54,.av (.int .i64) (.i .i64 a.asks.length)),(55,.av (.int .i64) (.i .i64 k))] [(2,(zl3,A))] (fun _=>0) [])
  (fun k=>k<=a.asks.length/\∀j (h:j<a.asks.length),j<k->CK a.asks[j]=true) (fun k=>a.asks.length-k) 0 ?_ ⟨by omega,fun j _ h=>by omega⟩ ?_
 ·apply Le.of<;>simp[zR,qI,z6,hAE]<;>try omega
 rintro k ⟨hk,hall3⟩ KL hN hE
 refine zrd cf0 ?_
 by_cases hlt:k<a.asks.length
 ·have hlt':(k:Int)<a.asks.length:=by omega
  have hg:=xM a.asks k hlt
  have hg2:(strs a.asks)[k]'(by rw[hsa];exact hlt)=.s a.asks[k]:=by simp[strs]
  have hpl:=ha.b.bae _ (List.getElem_mem hlt)
  have hun:=zsM a.asks[k] (by omega)
  have hbad:CK a.asks[k]=false->V=1:=fun h=>by
   rw[hV,if_pos (.inr (.inr (.inr (List.any_eq_true.2 ⟨_,List.getElem_mem hlt,by simp[h]⟩))))]
  have hal:CK a.asks[k]=true->∀j (h:j<a.asks.length),j<k+1->CK a.asks[j]=true:=fun h0=>zqZ (P:=fun j p=>CK p=true) h0 hall3
  generalize a.asks[k]=p at *
  simp (disch:=omega) [zz,hlt',hg,hg2,hsa,hAE]
  refine qO hun rfl rfl (by simp) (by simp[qR,coC,TV.er,AV.er]) ?_
  cases hu:CK p with
  | false =>
   simp (disch:=omega) [zz,hu]
   refine hE _ _ (by simp) ?_
   simp (disch:=omega) [zz,hbad hu,Tryz.f43]
  | true =>
   simp (disch:=omega) [zz,hu]
   refine hN _ (k+1) ?_ ⟨by omega,hal hu⟩ (by omega)
   apply Le.of<;>simp[zR,qI,z6,hAE]<;>try omega
 have hkn:k=a.asks.length:=by omega
 subst hkn
 have hlt':¬(a.asks.length:Int)<a.asks.length:=by omega
 simp (disch:=omega) [zz,hlt']
 refine hE _ _ (by simp) ?_
 clear hN hE
 rw[if_neg]at hV
 rotate_left
 ·simp only[not_or]
  exact⟨h2e,zsd hall,zsd hall2,zsd hall3⟩
 simp (disch:=omega) [zz,hAE,hso]
 refine AT.loop' (α:=Nat) (fun k=>St.of [(1,.av (.slice 9) (.sl .no (strs L))),(2,.loc 2 []),(68,.av (.int .i64) (.i .i64 a.outs.length)),(69,.av (.int .i64) (.i .i64 k))] [(2,(zl3,A))] (fun _=>0) [])
  (fun k=>k<=a.outs.length/\∀j (h:j<a.outs.length),j<k->a.outs[j]∉L++a.outs.take j) (fun k=>a.outs.length-k) 0 ?_ ⟨by omega,fun j _ h=>by omega⟩ ?_
 ·apply Le.of<;>simp[zR,qI,z6,hAE]<;>try omega
 rintro k ⟨hk,hall4⟩ KL hN hE
 refine zrd cf0 ?_
 by_cases hlt:k<a.outs.length
 ·have hlt':(k:Int)<a.outs.length:=by omega
  have hg:=xM a.outs k hlt
  have hg2:(strs a.outs)[k]'(by rw[hso];exact hlt)=.s a.outs[k]:=by simp[strs]
  have hin1:=zs2 L a.outs[k] hL
  have hin2:=zs2 (a.outs.take k) a.outs[k] (by rw[List.length_take];omega)
  have hdu:=zsl k L a.outs hlt
  have hal:a.outs[k]∉L++a.outs.take k->∀j (h:j<a.outs.length),j<k+1->a.outs[j]∉L++a.outs.take j:=fun h0=>zqZ (P:=fun j p=>p∉L++a.outs.take j) h0 hall4
  have hst:strs (a.outs.take k)=(strs a.outs).take k:=by simp[strs]
  rw[hst]at hin2
  generalize a.outs[k]=p at *
  have hsL:AV.ers (strs L)=strs L:=by simp[strs,AV.ers_eq,Function.comp_def,AV.er]
  have hsO:AV.ers ((strs a.outs).take k)=(strs a.outs).take k:=by simp[strs,AV.ers_eq,Function.comp_def,AV.er]
  simp (disch:=omega) [zz,hlt',hg,hg2,hso,hAE]
  (repeat with_reducible refine om ?_)
  refine kP hin1 rfl rfl (by simp) (by simp[qR,coC,TV.er,AV.er,hsL]) ?_
  by_cases m1:p∈L
  ·rw[hdu (List.mem_append_left _ m1),if_pos rfl]at hV
   simp (disch:=omega) [zz,m1]
   (repeat with_reducible refine om ?_)
   refine hE _ _ (by simp) ?_
   simp (disch:=omega) [zz,hV,Tryz.f43]
  simp (disch:=omega) [zz,m1,hg,hg2,hso,hlt',hAE]
  (repeat with_reducible refine om ?_)
  refine kP hin2 rfl rfl (by simp) (by simp[qR,coC,TV.er,AV.er,hsO]) ?_
  by_cases m2:p∈a.outs.take k
  ·rw[hdu (List.mem_append_right _ m2),if_pos rfl]at hV
   simp (disch:=omega) [zz,m2]
   (repeat with_reducible refine om ?_)
   refine hE _ _ (by simp) ?_
   simp (disch:=omega) [zz,hV,Tryz.f43]
  ·simp (disch:=omega) [zz,m2]
   (repeat with_reducible refine om ?_)
   refine hN _ (k+1) ?_ ⟨by omega,hal fun h=>(List.mem_append.1 h).elim m1 m2⟩ (by omega)
   apply Le.of<;>simp[zR,qI,z6,hAE]<;>try omega
 have hkn:k=a.outs.length:=by omega
 subst hkn
 have hlt':¬(a.outs.length:Int)<a.outs.length:=by omega
 rw[if_neg (by rw[zrG L a.outs fun j hj=>hall4 j hj hj];simp)]at hV
 simp (disch:=omega) [zz,hlt']
 refine hE _ _ (by simp) ?_
 simp (disch:=omega) [zz,hV,Tryz.f43]
theorem zrV {N:Nat}:∀ {l:List QT},(∀a∈l,a.outs.length<=N)->(l.flatMap (·.outs)).length<=l.length*N
 | [],_=>by simp
 | a::l,h=>by
  have h1:=zrV fun b hb=>h b (List.mem_cons_of_mem _ hb)
  have h2:=h a (List.mem_cons_self ..)
  rw[List.flatMap_cons,List.length_append,List.length_cons,Nat.add_mul,Nat.one_mul]
  omega
theorem zrX (l:List QT) (hl:∀a∈l,zoy a) (hn:l.length<=1000000000) :
  PC Tryz.prog 20 [.av (.slice 49) (jP l)] (.tup [(.int .i64,.i .i64 (gO l).1),(.int .i64,.i .i64 ((gO l).2:Nat))]):=by
 obtain⟨V,hV⟩:∃V,V=gO l:=⟨_,rfl⟩
 rw[<-hV]
 unfold gO at hV
 refine zow Tryz.func20 cf0 fun imm0 w0=>?_
 by_cases h5:500<l.length
 ·have h5':(500:Int)<l.length:=by omega
  rw[if_pos h5]at hV
  subst hV
  simp (disch:=omega) [zz,jP,h5',Tryz.f20]
 have h5':¬(500:Int)<l.length:=by omega
 rw[if_neg h5]at hV
 simp (disch:=omega) [zz,jP,h5']
 refine AT.loop' (α:=Nat) (fun k=>St.of [(0,.av (.slice 49) (jP l)),(4,.av (.slice 9) (.sl (tkG 32 k) (strs ((l.take k).flatMap (·.outs))))),(12,.av (.int .i64) (.i .i64 l.length)),(13,.av (.int .i64) (.i .i64 k))] [] (fun j=>if j=32 then k else 0) [])
  (fun k=>k<=l.length/\V=goC k ((l.take k).flatMap (·.outs)) (l.drop k)) (fun k=>l.length-k) 0 ?_ ⟨by omega,by simpa using hV⟩ ?_
 ·have hs0:strs []=[]:=rfl
  apply Le.of<;>simp[zR,qI,z6,jP,tkG,hs0]<;>try omega
 rintro k ⟨hk,hgo⟩ KL hN hE
 refine zrd cf0 ?_
 by_cases hlt:k<l.length
 ·have hlt':(k:Int)<l.length:=by omega
  have hg:=kG wW l k hlt
  have hac:=hl _ (List.getElem_mem hlt)
  have htk:l.take (k+1)=l.take k++[l[k]]:=List.take_succ_eq_append_getElem hlt
  have hbk:((l.take k).flatMap (·.outs)).length<=500000000:=by
   have h1:=zrV (l:=l.take k) (N:=1000000) fun a ha=>(hl a (List.mem_of_mem_take ha)).b.bo
   have h2:(l.take k).length*1000000<=500*1000000:=Nat.mul_le_mul_right _ (by rw[List.length_take];omega)
   omega
  rw[List.drop_eq_getElem_cons hlt]at hgo
  obtain⟨a,ha⟩:∃a,a=l[k]:=⟨_,rfl⟩
  rw[<-ha]at hg hac htk hgo
  obtain⟨L,hL⟩:∃L,L=(l.take k).flatMap (·.outs):=⟨_,rfl⟩
  have hL2:(l.take (k+1)).flatMap (·.outs)=L++a.outs:=by rw[htk,hL];simp
  rw[<-hL]at hgo hbk |-
  have hae:=pC a
  have hlk:=zsz a hac L (by omega)
  have hsL:AV.ers (strs L)=strs L:=by simp[strs,AV.ers_eq,Function.comp_def,AV.er]
  have hsl:=jS L
  have hso:=jS a.outs
  have hbo:=hac.b.bo
  have hst:strs (L++a.outs)=strs L++strs a.outs:=by simp[strs]
  obtain⟨X,hX⟩:∃X,X=wW a:=⟨_,rfl⟩
  have hXE:X=.agg [.agg [.s a.pkg,.s a.name],.s a.tool,zO a.env,.sl .no (strs a.ins),.sl .no (strs a.asks),.sl .no (strs a.outs)]:=hX
  rw[<-hX]at hg hae hlk
  simp (disch:=omega) [zz,hlt',hg,jP]
  (repeat with_reducible refine om ?_)
  refine qO hlk rfl rfl (by simp) (by simp[qR,TV.er,AV.er,hae,hsL]) ?_
  unfold goC at hgo
  by_cases h0:pF a L=0
  ·rw[if_pos h0]at hgo
   simp (disch:=omega) [zz,h0,hlt',hg,jP,hXE]
   (repeat with_reducible refine om ?_)
   refine xQ (by simp) (by simp[hsl,hso];omega) (by simp[hsl,hso];omega) (by simp) (by simp) ?_
   simp (disch:=omega) [zz]
   refine hN _ (k+1) ?_ ⟨by omega,by rw[hL2];exact hgo⟩ (by omega)
   rw[hL2,hst]
   apply Le.of<;>simp[zR,qI,z6,jP]<;>try omega
   all_goals (intro j;by_cases hj:j=32<;>simp[hj])
  ·rw[if_neg h0]at hgo
   simp (disch:=omega) [zz,h0]
   (repeat with_reducible refine om ?_)
   refine hE _ _ (by simp) ?_
   simp (disch:=omega) [zz,Tryz.f20,hgo]
 ·have hlt':¬(k:Int)<l.length:=by omega
  rw[List.drop_of_length_le (by omega)]at hgo
  simp (disch:=omega) [zz,hlt',jP]
  refine hE _ _ (by simp) ?_
  simp (disch:=omega) [zz,Tryz.f20,hgo,goC]
theorem zs5 (w:zV) (hw:WkC w):PC Tryz.prog 9 [.av CZ (yV w)] (.av (.int .i64) (.i .i64 (X0 w))):=by
 have hf:=zse w.files (fun f hf=>by have:=hw.f f hf;omega) hw.fn
 have ha:=zrX w.acts hw.a hw.an
 have hea:=ZT w.acts
 have hef:=j6 w.files
 have hwn:=hw.wn
 have hsl:=jS w.wants
 obtain⟨W,hW⟩:∃W,W=yV w:=⟨_,rfl⟩
 have hWE:W=.agg [qL w.files,jP w.acts,.sl .no (strs w.wants),.b w.keep]:=hW
 obtain⟨V,hV⟩:∃V,V=X0 w:=⟨_,rfl⟩
 rw[<-hV,<-hW]
 unfold X0 at hV
 refine zow Tryz.func9 cf0 fun imm0 w0=>?_
 simp (disch:=omega) [zz,hWE]
 refine qO hf rfl rfl (by simp) (by simp[qR,TV.er,AV.er,hef]) ?_
 by_cases h1:XW w.files=0
 rotate_left
 ·rw[if_pos h1]at hV
  simp (disch:=omega) [zz,h1,Tryz.f9,hV]
 rw[if_neg (by simp[h1])]at hV
 simp (disch:=omega) [zz,h1,hWE]
 refine qO ha rfl rfl (by simp) (by simp[qR,TV.er,AV.er,hea]) ?_
 by_cases h2:(gO w.acts).1=0
 rotate_left
 ·rw[if_pos h2]at hV
  simp (disch:=omega) [zz,h2,Tryz.f9,hV]
 rw[if_neg (by simp[h2])]at hV
 by_cases h3:1000<w.wants.length
 ·have h3':(1000:Int)<w.wants.length:=by omega
  rw[if_pos h3]at hV
  simp (disch:=omega) [zz,h2,hWE,hsl,h3',Tryz.f9,hV]
 have h3':¬(1000:Int)<w.wants.length:=by omega
 rw[if_neg h3]at hV
 simp (disch:=omega) [zz,h2,hWE,hsl,h3']
 refine AT.loop' (α:=Nat) (fun k=>St.of [(1,.loc 1 []),(26,.av (.int .i64) (.i .i64 w.wants.length)),(27,.av (.int .i64) (.i .i64 k))] [(1,(CZ,W))] (fun _=>0) [])
  (fun k=>k<=w.wants.length/\∀j (h:j<w.wants.length),j<k->w5 w.wants[j]=true) (fun k=>w.wants.length-k) 0 ?_ ⟨by omega,fun j _ h=>by omega⟩ ?_
 ·apply Le.of<;>simp[zR,qI,z6,hWE]<;>try omega
 rintro k ⟨hk,hall⟩ KL hN hE
 refine zrd cf0 ?_
 by_cases hlt:k<w.wants.length
 ·have hlt':(k:Int)<w.wants.length:=by omega
  have hg:=xM w.wants k hlt
  have hg2:(strs w.wants)[k]'(by rw[hsl];exact hlt)=.s w.wants[k]:=by simp[strs]
  have hpl:=hw.p _ (List.getElem_mem hlt)
  have hun:=zqQ w.wants[k] (by omega)
  have hbad:w5 w.wants[k]=false->V=1:=fun h=>by
   rw[hV,if_neg]
   intro h4
   rw[List.all_eq_true]at h4
   have:=h4 _ (List.getElem_mem hlt)
   rw[h]at this;cases this
  have hal:w5 w.wants[k]=true->∀j (h:j<w.wants.length),j<k+1->w5 w.wants[j]=true:=fun h0=>zqZ (P:=fun j p=>w5 p=true) h0 hall
  generalize w.wants[k]=p at *
  simp (disch:=omega) [zz,hlt',hg,hg2,hsl,hWE]
  refine qO hun rfl rfl (by simp) (by simp[qR,coC,TV.er,AV.er]) ?_
  cases hu:w5 p with
  | false =>
   simp (disch:=omega) [zz,hu]
   refine hE _ _ (by simp) ?_
   simp (disch:=omega) [zz,hbad hu,Tryz.f9]
  | true =>
   simp (disch:=omega) [zz,hu]
   refine hN _ (k+1) ?_ ⟨by omega,hal hu⟩ (by omega)
   apply Le.of<;>simp[zR,qI,z6,hWE]<;>try omega
 have hkn:k=w.wants.length:=by omega
 subst hkn
 have hlt':¬(w.wants.length:Int)<w.wants.length:=by omega
 rw[if_pos]at hV
 rotate_left
 ·rw[List.all_eq_true]
  intro p hp
  obtain⟨j,hj,rfl⟩:=List.getElem_of_mem hp
  exact hall j hj hj
 simp (disch:=omega) [zz,hlt']
 refine hE _ _ (by simp) ?_
 simp (disch:=omega) [zz,hV,Tryz.f9]
end
end Go.Proofs.YtdkieabmeiojjaaGreatDoor
