/- A row turned; files checked, and one of them left out. No condition. -/
import Derived.Test.YtdkieabmeiojjaaGreatDoorSC1ToP12
set_option linter.unusedSimpArgs false
set_option linter.unusedVariables false
set_option linter.unusedSectionVars false
set_option maxHeartbeats 64000000
set_option maxRecDepth 100000
namespace Go.Proofs.YtdkieabmeiojjaaGreatDoor
open Go Go.Ab
open Classical
section
variable [Sel] [SelPow] [SelMax]
def YR:Txt:=[111,117,116]
def JC (fs:List jK) (i:Nat) (h:i<fs.length):Int :=
 if w5 fs[i].path=false\/fs[i].path=YR\/Z8 fs[i].path YR=true then 7
 else if h0:0<i then(if fs[i].path=(fs[i-1]'(by omega)).path then 8 else if Op.bytesLess fs[i].path (fs[i-1]'(by omega)).path=true then 2 else if 65536<fs[i].data.length then 6 else 0)
 else if 65536<fs[i].data.length then 6 else 0
noncomputable def XW (fs:List jK):Int:=if 1024<fs.length then 6 else if h:∃i,∃hi:i<fs.length,JC fs i hi≠0/\∀j (hj:j<i),JC fs j (by omega)=0 then JC fs h.choose h.choose_spec.choose else 0
theorem zgN {fs:List jK} (h0:¬1024<fs.length) {k:Nat} (hk:k<fs.length) (h1:JC fs k hk≠0) (h2:∀j (hj:j<k),JC fs j (by omega)=0):XW fs=JC fs k hk:=by
 have hex:∃i,∃hi:i<fs.length,JC fs i hi≠0/\∀j (hj:j<i),JC fs j (by omega)=0:=⟨k,hk,h1,h2⟩
 unfold XW
 rw[if_neg h0,dif_pos hex]
 obtain⟨hi,hne,hall⟩:=hex.choose_spec
 have:hex.choose=k:=by
  rcases Nat.lt_trichotomy hex.choose k with h|h|h
  ·exact absurd (h2 _ h) hne
  ·exact h
  ·exact absurd (hall k h) h1
 simp only[this]
theorem zbV {fs:List jK} (h0:¬1024<fs.length) (h2:∀j (hj:j<fs.length),JC fs j hj=0):XW fs=0:=by
 unfold XW
 rw[if_neg h0,dif_neg]
 rintro⟨i,hi,h,_⟩
 exact h (h2 i hi)
theorem zse (fs:List jK) (hp:∀f∈fs,f.path.length<=2000000) (hn:fs.length<=1000000000):PC Tryz.prog 19 [.av (.slice 43) (qL fs)] (.av (.int .i64) (.i .i64 (XW fs))):=by
 refine zow Tryz.func19 cf0 fun imm0 w0=>?_
 by_cases h0:1024<fs.length
 ·have h0':(1024:Int)<fs.length:=by omega
  have hv:XW fs=6:=by unfold XW;rw[if_pos h0]
  (simp (maxSteps:=2000000) (disch:=first|omega|assumption) [zz,-List.reduceReplicate,qL,h0',hv,Tryz.f19])
 have h0':¬(1024:Int)<fs.length:=by omega
 (simp (maxSteps:=2000000) (disch:=first|omega|assumption) [zz,-List.reduceReplicate,qL,h0'])
 refine AT.loop' (α:=Nat) (fun k=>St.of [(0,.av (.slice 43) (qL fs)),(9,.av (.int .i64) (.i .i64 fs.length)),(10,.av (.int .i64) (.i .i64 k))] [] (fun _=>0) [])
  (fun k=>k<=fs.length/\∀j (hj:j<fs.length),j<k->JC fs j hj=0) (fun k=>fs.length-k) 0 ?_ ?_ ?_
 ·apply Le.of<;>simp[zR,qI,qL]<;>try omega
 ·exact⟨by omega,fun j hj h=>by omega⟩
 rintro k ⟨hk,hall⟩ KL hN hE
 refine zrd cf0 ?_
 by_cases hlt:k<fs.length
 ·have hlt':(k:Int)<fs.length:=by omega
  have hg:=kG zK fs k hlt
  have hpl:=hp _ (List.getElem_mem hlt)
  have hsc:JC fs k hlt=JC fs k hlt:=rfl
  conv at hsc=>rhs;unfold JC
  have hbad:JC fs k hlt≠0->XW fs=JC fs k hlt:=fun h=>zgN h0 hlt h fun j hj=>hall j (by omega) hj
  obtain⟨f,hf⟩:∃f,f=fs[k]:=⟨_,rfl⟩
  rw[<-hf]at hg hpl
  simp only[<-hf]at hsc
  have hmy:=zqQ f.path (by omega)
  have hun:=zrf YR (by decide) f.path.length f.path (Nat.le_refl _) (by omega)
  rw[show YR=[111,117,116] from rfl]at hun hsc
  (simp (maxSteps:=2000000) (disch:=first|omega|assumption) [zz,-List.reduceReplicate,hlt',hg,zK,qL])
  refine zcv hmy ?_
  cases hm:w5 f.path with
  | false =>
   have hs:JC fs k hlt=7:=by rw[hsc,if_pos (.inl hm)]
   have hv:=hbad (by omega)
   rw[hs]at hv
   (simp (maxSteps:=2000000) (disch:=first|omega|assumption) [zz,-List.reduceReplicate,hm])
   refine hE _ _ (by simp) ?_
   (simp (maxSteps:=2000000) (disch:=first|omega|assumption) [zz,-List.reduceReplicate,hv,Tryz.f19])
  | true =>
  by_cases ho:f.path=[111,117,116]
  ·have hs:JC fs k hlt=7:=by rw[hsc,if_pos (.inr (.inl ho))]
   have hv:=hbad (by omega)
   rw[hs]at hv
   (simp (maxSteps:=2000000) (disch:=first|omega|assumption) [zz,-List.reduceReplicate,hm,ho])
   refine hE _ _ (by simp) ?_
   (simp (maxSteps:=2000000) (disch:=first|omega|assumption) [zz,-List.reduceReplicate,hv,Tryz.f19])
  (simp (maxSteps:=2000000) (disch:=first|omega|assumption) [zz,-List.reduceReplicate,hm,ho])
  refine qO hun rfl rfl (by simp) (by simp[qR,coC,TV.er,AV.er]) ?_
  cases hu:Z8 f.path [111,117,116]with
  | true =>
   have hs:JC fs k hlt=7:=by rw[hsc,if_pos (.inr (.inr hu))]
   have hv:=hbad (by omega)
   rw[hs]at hv
   (simp (maxSteps:=2000000) (disch:=first|omega|assumption) [zz,-List.reduceReplicate,hu])
   refine hE _ _ (by simp) ?_
   (simp (maxSteps:=2000000) (disch:=first|omega|assumption) [zz,-List.reduceReplicate,hv,Tryz.f19])
  | false =>
  rw[if_neg (by simp[hm,ho,hu])]at hsc
  cases k with
  | zero =>
   rw[dif_neg (by omega)]at hsc
   by_cases hd:65536<f.data.length
   ·have hd':(65536:Int)<f.data.length:=by omega
    rw[if_pos hd]at hsc
    have hv:=hbad (by omega)
    rw[hsc]at hv
    (simp (maxSteps:=2000000) (disch:=first|omega|assumption) [zz,-List.reduceReplicate,hu,hlt,hlt',hg,zK,qL,hd'])
    refine hE _ _ (by simp) ?_
    (simp (maxSteps:=2000000) (disch:=first|omega|assumption) [zz,-List.reduceReplicate,hv,Tryz.f19])
   ·have hd':¬(65536:Int)<f.data.length:=by omega
    rw[if_neg hd]at hsc
    (simp (maxSteps:=2000000) (disch:=first|omega|assumption) [zz,-List.reduceReplicate,hu,hlt,hlt',hg,zK,qL,hd'])
    refine hN _ 1 ?_ ⟨by omega,fun j hj h=>by
                           obtain rfl:j=0:=by omega
                           exact hsc⟩ (by omega)
    apply Le.of<;>simp[zR,qI,qL]<;>try omega
  | succ k =>
   rw[dif_pos (by omega)]at hsc
   have hg2:=kG zK fs k (by omega)
   have hkk:(k:Int)<fs.length:=by omega
   have hk0:(0:Int)<(k:Int)+1:=by omega
   simp only[Nat.add_sub_cancel]at hsc
   obtain⟨g,hgg⟩:∃g,g=fs[k]:=⟨_,rfl⟩
   rw[<-hgg]at hg2
   simp only[<-hgg]at hsc
   by_cases e1:f.path=g.path
   ·rw[if_pos e1]at hsc
    have hv:=hbad (by omega)
    rw[hsc]at hv
    (simp (maxSteps:=2000000) (disch:=first|omega|assumption) [zz,-List.reduceReplicate,hu,hlt,hlt',hkk,hk0,hg,hg2,zK,qL,e1])
    refine hE _ _ (by simp) ?_
    (simp (maxSteps:=2000000) (disch:=first|omega|assumption) [zz,-List.reduceReplicate,hv,Tryz.f19])
   rw[if_neg e1]at hsc
   cases e2:Op.bytesLess f.path g.path with
   | true =>
    rw[if_pos e2]at hsc
    have hv:=hbad (by omega)
    rw[hsc]at hv
    (simp (maxSteps:=2000000) (disch:=first|omega|assumption) [zz,-List.reduceReplicate,hu,hlt,hlt',hkk,hk0,hg,hg2,zK,qL,e1,e2])
    refine hE _ _ (by simp) ?_
    (simp (maxSteps:=2000000) (disch:=first|omega|assumption) [zz,-List.reduceReplicate,hv,Tryz.f19])
   | false =>
   rw[if_neg (by simp[e2])]at hsc
   by_cases hd:65536<f.data.length
   ·have hd':(65536:Int)<f.data.length:=by omega
    rw[if_pos hd]at hsc
    have hv:=hbad (by omega)
    rw[hsc]at hv
    (simp (maxSteps:=2000000) (disch:=first|omega|assumption) [zz,-List.reduceReplicate,hu,hlt,hlt',hkk,hk0,hg,hg2,zK,qL,e1,e2,hd'])
    (repeat with_reducible refine om ?_)
    refine hE _ _ (by simp) ?_
    (simp (maxSteps:=2000000) (disch:=first|omega|assumption) [zz,-List.reduceReplicate,hv,Tryz.f19])
   ·have hd':¬(65536:Int)<f.data.length:=by omega
    rw[if_neg hd]at hsc
    (simp (maxSteps:=2000000) (disch:=first|omega|assumption) [zz,-List.reduceReplicate,hu,hlt,hlt',hkk,hk0,hg,hg2,zK,qL,e1,e2,hd'])
    (repeat with_reducible refine om ?_)
    refine hN _ (k+2) ?_ ⟨by omega,fun j hj h=>?_⟩ (by omega)
    ·apply Le.of<;>simp[zR,qI,qL]<;>try omega
    ·rcases Nat.lt_or_ge j (k+1)with h'|h'
     ·exact hall j hj h'
     ·obtain rfl:j=k+1:=by omega
      exact hsc
 ·have hlt':¬(k:Int)<fs.length:=by omega
  have hv:=zbV h0 fun j hj=>hall j hj (by omega)
  (simp (maxSteps:=2000000) (disch:=first|omega|assumption) [zz,-List.reduceReplicate,hlt',qL])
  refine hE _ _ (by simp) ?_
  (simp (maxSteps:=2000000) (disch:=first|omega|assumption) [zz,-List.reduceReplicate,hv,Tryz.f19])
def XF (f:jK) (ahead:Txt) (first:Bool):Int :=
 if w5 f.path=false\/f.path=YR\/Z8 f.path YR=true then 7 else
 if first=false/\f.path=ahead then 8 else if first=false/\Op.bytesLess f.path ahead=true then 2 else if 65536<f.data.length then 6 else 0
theorem ziX (f:jK) (ahead:Txt) (first:Bool) (hl:f.path.length<=9223372036854775807):PC Tryz.prog 65 [.av zlN (zK f),.av .str (.s ahead),.av .bool (.b first)] (.av (.int .i64) (.i .i64 (XF f ahead first))):=by
 have hm:=YW f.path hl
 have hu:=zd4 f.path YR hl (by simp[YR])
 refine zow Tryz.func65 cf0 fun imm0 w0=>?_
 simp (disch:=omega) [zz,zK]
 refine zcv hm ?_
 by_cases h1:w5 f.path=true
 rotate_left
 ·have h1':w5 f.path=false:=by simpa using h1
  simp (disch:=omega) [zz,h1',Tryz.f65,XF]
 by_cases h2:f.path=YR
 ·have h2':f.path=[111,117,116]:=h2
  simp (disch:=omega) [zz,h1,h2',Tryz.f65,XF,YR]
 have h2':¬f.path=[111,117,116]:=h2
 simp (disch:=omega) [zz,h1,h2']
 refine qO hu rfl rfl (by simp) (by simp[qR,TV.er,AV.er,YR]) ?_
 by_cases h3:Z8 f.path YR=true
 ·simp (disch:=omega) [zz,h3,Tryz.f65,XF]
 have h3':Z8 f.path YR=false:=by simpa using h3
 cases first with
 | true =>
  by_cases h6:65536<f.data.length
  ·have h6':(65536:Int)<f.data.length:=by omega
   simp (disch:=omega) [zz,h3',h6',Tryz.f65,XF,h1,h2,h6]
  ·have h6':¬(65536:Int)<f.data.length:=by omega
   simp (disch:=omega) [zz,h3',h6',Tryz.f65,XF,h1,h2,h6]
 | false =>
  by_cases h4:f.path=ahead
  ·rw[h4]at h1 h2 h3'
   simp (disch:=omega) [zz,h3',h4,Tryz.f65,XF,h1,h2]
  by_cases h5:Op.bytesLess f.path ahead=true
  ·simp (disch:=omega) [zz,h3',h4,h5,Tryz.f65,XF,h1,h2]
  have h5':Op.bytesLess f.path ahead=false:=by simpa using h5
  by_cases h6:65536<f.data.length
  ·have h6':(65536:Int)<f.data.length:=by omega
   simp (disch:=omega) [zz,h3',h4,h5',h6',Tryz.f65,XF,h1,h2,h6]
  ·have h6':¬(65536:Int)<f.data.length:=by omega
   simp (disch:=omega) [zz,h3',h4,h5',h6',Tryz.f65,XF,h1,h2,h6]
def uM (fs:List jK):Nat->Txt
 | 0=>[]
 | k+1=>match fs[k]? with
  | some f=>f.path
  | none=>[]
theorem zhx (fs:List jK) (k:Nat) (h:k<fs.length):XF fs[k] (uM fs k) (decide (k=0))=JC fs k h:=by
 unfold XF JC
 cases k with
 | zero=>simp
 | succ n =>
  have h2:uM fs (n+1)=(fs[n]'(by omega)).path:=by simp[uM,List.getElem?_eq_getElem (show n<fs.length by omega)]
  simp[h2]
theorem ziQ (fs:List jK) (hn:fs.length<=1000000000) (hl:∀f∈fs,f.path.length<=9223372036854775807) :
  PC Tryz.prog 46 [.av (.slice 43) (qL fs)] (.av (.int .i64) (.i .i64 (XW fs))):=by
 refine zow Tryz.func46 cf0 fun imm0 w0=>?_
 by_cases h6:1024<fs.length
 ·have h6':(1024:Int)<fs.length:=by omega
  have hv:XW fs=6:=by unfold XW;rw[if_pos h6]
  simp (disch:=omega) [zz,qL,h6',hv,Tryz.f46]
 have h6':¬(1024:Int)<fs.length:=by omega
 simp (disch:=omega) [zz,qL,h6']
 refine AT.loop' (α:=Nat) (fun k=>St.of [(3,.av .str (.s (uM fs k))),(10,.av (.slice 43) (qL fs)),(11,.av (.int .i64) (.i .i64 fs.length)),(12,.av (.int .i64) (.i .i64 k))] [] (fun _=>0) [])
  (fun k=>k<=fs.length/\∀j (hj:j<fs.length),j<k->JC fs j hj=0) (fun k=>fs.length-k) 0 ?_ ?_ ?_
 ·apply Le.of<;>simp[zR,qI,z6,qL,uM]<;>try omega
 ·exact⟨by omega,fun j hj h=>by omega⟩
 rintro k ⟨hk,hall⟩ KL hN hE
 refine zrd cf0 ?_
 by_cases hlt:k<fs.length
 ·have hlt':(k:Int)<fs.length:=by omega
  have hg:=kG zK fs k hlt
  have hlk:=ziX fs[k] (uM fs k) (decide (k=0)) (hl _ (List.getElem_mem hlt))
  rw[zhx]at hlk
  have hah:uM fs (k+1)=fs[k].path:=by simp[uM,List.getElem?_eq_getElem hlt]
  have hbad:JC fs k hlt≠0->XW fs=JC fs k hlt:=fun h=>zgN h6 hlt h fun j hj=>hall j (by omega) hj
  obtain⟨f,hf⟩:∃f,f=fs[k]:=⟨_,rfl⟩
  obtain⟨e,he⟩:∃e,e=JC fs k hlt:=⟨_,rfl⟩
  rw[<-hf]at hg hlk hah
  rw[<-he]at hlk hbad
  have hfe:=cC f
  have hk0:((k:Int)=0)<->k=0:=by omega
  simp (disch:=omega) [zz,hlt',hg,qL]
  (repeat with_reducible refine om ?_)
  refine qO hlk rfl rfl (by simp) (by simp[qR,TV.er,AV.er,hfe]) ?_
  by_cases h0:e=0
  ·simp (disch:=omega) [zz,h0,zK]
   (repeat with_reducible refine om ?_)
   refine hN _ (k+1) ?_ ⟨by omega,fun j hj h=>?_⟩ (by omega)
   ·apply Le.of<;>simp[zR,qI,z6,qL,hah]<;>try omega
   ·rcases Nat.lt_or_ge j k with h1|h1
    ·exact hall j hj h1
    ·have:j=k:=by omega
     subst this;rw[<-he];exact h0
  ·have hv:=hbad h0
   simp (disch:=omega) [zz,h0]
   (repeat with_reducible refine om ?_)
   refine hE _ _ (by simp) ?_
   simp (disch:=omega) [zz,hv,Tryz.f46]
 ·have hlt':¬(k:Int)<fs.length:=by omega
  have hv:XW fs=0:=zbV h6 fun j hj=>hall j hj (by omega)
  simp (disch:=omega) [zz,hlt',qL]
  refine hE _ _ (by simp) ?_
  simp (disch:=omega) [zz,hv,Tryz.f46]
def Y3 (t:Txt):Int × Int:=match zL t with
 | .ok _=>(0,0)
 | .error (e,n)=>(e,n)
theorem zg1 (t:Txt) (hl:t.length<=1000000):PC Tryz.prog 98 [.av .str (.s t)] (.tup [(.int .i64,.i .i64 (Y3 t).1),(.int .i64,.i .i64 (Y3 t).2)]):=by
 have hc:=pZ t hl
 refine zow Tryz.func98 cf0 fun imm0 w0=>?_
 unfold CO at hc
 unfold Y3
 cases hcv:zL t with
 | ok cs =>
  rw[hcv]at hc
  simp (disch:=omega) [zz]
  refine zcv hc ?_
  simp (disch:=omega) [zz,Tryz.f98]
 | error e =>
  rw[hcv]at hc
  simp (disch:=omega) [zz]
  refine zcv hc ?_
  simp (disch:=omega) [zz,Tryz.f98]
theorem zjM (p:Txt) (hl:p.length<=2000000):PC Tryz.prog 99 [.av .str (.s p)] (.av .bool (.b (!Z8 p YR))):=by
 have hu:=zd4 p YR (by omega) (by simp[YR])
 refine zow Tryz.func99 cf0 fun imm0 w0=>?_
 simp (disch:=omega) [zz]
 refine qO hu rfl rfl (by simp) (by simp[qR,TV.er,AV.er,YR]) ?_
 simp (disch:=omega) [zz,Tryz.f99]
theorem zjz (p:Txt) (hl:p.length<=2000000):PC Tryz.prog 100 [.av .str (.s p)] (.av .bool (.b (!w5 p))):=by
 have hu:=YW p (by omega)
 refine zow Tryz.func100 cf0 fun imm0 w0=>?_
 simp (disch:=omega) [zz]
 refine zcv hu ?_
 simp (disch:=omega) [zz,Tryz.f100]
theorem zkl (p:Txt) (hl:p.length<=2000000):PC Tryz.prog 101 [.av .str (.s p)] (.av .bool (.b (!CK p))):=by
 have hu:=zgG p hl
 refine zow Tryz.func101 cf0 fun imm0 w0=>?_
 simp (disch:=omega) [zz]
 refine zcv hu ?_
 simp (disch:=omega) [zz,Tryz.f101]
def dN:List Txt->List Txt->Bool
 | _,[]=>false
 | L,p::r=>if p∈L then true else dN (L++[p]) r
noncomputable def pF (a:QT) (L:List Txt):Int :=
 if (Y3 a.tool).1≠0 then(Y3 a.tool).1 else
 if a.outs=[]\/a.outs.any (fun p=>!Z8 p YR)=true\/a.ins.any (fun p=>!w5 p)=true\/a.asks.any (fun p=>!CK p)=true then 1 else
 if dN L a.outs=true then 8 else 0
def obE (L:List Txt):List (AV × AV):=L.map fun p=>(AV.s p,AV.b true)
def obO (L:List Txt):HObj:=.map 9 4 (obE L)
structure zoy (a:QT):Prop where
 b:zm2 a
 o:∀p∈a.outs,p.length<=2000000
 i:∀p∈a.ins,p.length<=2000000
theorem zd9 (p:Txt):∀L:List Txt,wQ (.s p) (obE L)=if p∈L then some (.b true) else none
 | []=>rfl
 | x::l=>by
  have ih:=zd9 p l
  unfold obE at ih |-
  simp only[List.map_cons,wQ]
  by_cases h:x=p
  ·simp[h]
  ·have h2:¬p=x:=fun e=>h e.symm
   simp[h,h2,ih]
theorem zgp (p:Txt):∀L:List Txt,p∉L->K3 (.s p) (.b true) (obE L)=obE (L++[p])
 | [],_=>rfl
 | x::l,h=>by
  have ih:=zgp p l fun h'=>h (by simp[h'])
  have hx:¬x=p:=fun e=>h (by simp[e])
  unfold obE at ih |-
  simp only[List.map_cons,K3,List.cons_append,ih]
  simp[hx]
theorem zlM (a:QT) (ha:zoy a) (M:Nat) (L:List Txt) :
  q7 Tryz.prog 66 [.av zl3 (wW a),.av (.map 9 4) (.map (some M))] [(M,obO L)] fun r H'=>r=.av (.int .i64) (.i .i64 (pF a L))/\∃L2,H'=[(M,obO L2)]/\(pF a L=0->L2=L++a.outs):=by
 have hbt:=ha.b.bt
 have hbo:=ha.b.bo
 have hbi:=ha.b.bi
 have hba:=ha.b.ba
 have htl:=zg1 a.tool hbt
 have ho1:pF a L=pF a L:=rfl
 conv at ho1=>rhs;unfold pF
 have an1:=U2 (fun x=>!Z8 x YR) (.fn 99 []) [] a.outs ⟨rfl,rfl,fun x hx=>⟨[],rfl,by simp,by have h9:=zjM x (ha.o x hx);unfold PC at h9;simpa[TV.er,AV.er]using h9⟩⟩ (by omega)
 have an2:=U2 (fun x=>!w5 x) (.fn 100 []) [] a.ins ⟨rfl,rfl,fun x hx=>⟨[],rfl,by simp,by have h9:=zjz x (ha.i x hx);unfold PC at h9;simpa[TV.er,AV.er]using h9⟩⟩ (by omega)
 have an3:=U2 (fun x=>!CK x) (.fn 101 []) [] a.asks ⟨rfl,rfl,fun x hx=>⟨[],rfl,by simp,by have h9:=zkl x (by have:=ha.b.bae x hx;omega);unfold PC at h9;simpa[TV.er,AV.er]using h9⟩⟩ (by omega)
 have oer:(obO L).er=obO L:=by simp[obO,HObj.er_map,obE,AV.er,Function.comp_def]
 refine zov Tryz.func66 cf0 fun imm0 w0=>?_
 simp (disch:=omega) [zz,wW]
 refine zcv htl ?_
 by_cases h1:(Y3 a.tool).1=0
 rotate_left
 ·rw[if_pos h1]at ho1
  simp (disch:=omega) [zz,h1,Tryz.f66,ho1]
  exact⟨L,oer⟩
 rw[if_neg (by simp[h1])]at ho1
 by_cases h2:a.outs=[]
 ·rw[if_pos (.inl h2)]at ho1
  simp (disch:=omega) [zz,h1,h2,Tryz.f66,ho1]
  exact⟨L,oer⟩
 have h2':¬(a.outs.length:Int)=0:=by simp[h2]
 have h2d:decide (a.outs=[])=false:=by simp[h2]
 have h2e:decide ((a.outs.length:Int)=0)=false:=by simp[h2]
 simp (disch:=omega) [zz,h1,h2,h2',h2d,h2e]
 refine qD (R:=fun r H'=>r=.av .bool (.b (a.outs.any fun x=>!Z8 x YR))/\H'=[]) [] [(M,obO L)] (List.Perm.refl _) rfl (by simp[qE]) (by simp) ?_ ?_
 ·simpa[TV.er,AV.er,q8.er_nil,VO]using an1
 rintro r H' ⟨rfl,rfl⟩ _
 refine⟨[(M,obO L)],HSub.refl _,?_⟩
 cases h3:a.outs.any (fun x=>!Z8 x YR)with
 | true =>
  rw[if_pos (.inr (.inl h3))]at ho1
  simp (disch:=omega) [zz,h1,h2,Tryz.f66,ho1]
  exact⟨L,oer⟩
 | false =>
 simp (disch:=omega) [zz]
 refine qD (R:=fun r H'=>r=.av .bool (.b (a.ins.any fun x=>!w5 x))/\H'=[]) [] [(M,obO L)] (List.Perm.refl _) rfl (by simp[qE]) (by simp) ?_ ?_
 ·simpa[TV.er,AV.er,q8.er_nil,VO]using an2
 rintro r H' ⟨rfl,rfl⟩ _
 refine⟨[(M,obO L)],HSub.refl _,?_⟩
 cases h4:a.ins.any (fun x=>!w5 x)with
 | true =>
  rw[if_pos (.inr (.inr (.inl h4)))]at ho1
  simp (disch:=omega) [zz,h1,h2,Tryz.f66,ho1]
  exact⟨L,oer⟩
 | false =>
 simp (disch:=omega) [zz]
 refine qD (R:=fun r H'=>r=.av .bool (.b (a.asks.any fun x=>!CK x))/\H'=[]) [] [(M,obO L)] (List.Perm.refl _) rfl (by simp[qE]) (by simp) ?_ ?_
 ·simpa[TV.er,AV.er,q8.er_nil,VO]using an3
 rintro r H' ⟨rfl,rfl⟩ _
 refine⟨[(M,obO L)],HSub.refl _,?_⟩
 cases h5:a.asks.any (fun x=>!CK x)with
 | true =>
  rw[if_pos (.inr (.inr (.inr h5)))]at ho1
  simp (disch:=omega) [zz,h1,h2,Tryz.f66,ho1]
  exact⟨L,oer⟩
 | false =>
 simp (disch:=omega) [zz]
 rw[if_neg (by simp[h2,h3,h4,h5])]at ho1
 refine AT.loop' (α:=Nat) (fun k=>St.of [(1,.av (.map 9 4) (.map (some M))),(44,.av (.slice 9) (.sl .no (strs a.outs))),(45,.av (.int .i64) (.i .i64 a.outs.length)),(46,.av (.int .i64) (.i .i64 k))] [] (fun _=>0) [(M,obO (L++a.outs.take k))])
  (fun k=>k<=a.outs.length/\dN L a.outs=dN (L++a.outs.take k) (a.outs.drop k)) (fun k=>a.outs.length-k) 0 ?_ ?_ ?_
 ·apply Le.of<;>simp[zR,qI,z6]<;>try omega
 ·exact⟨by omega,by simp⟩
 rintro k ⟨hk,hdu⟩ KL hN hE
 refine zrd cf0 ?_
 by_cases hlt:k<a.outs.length
 ·have hlt':(k:Int)<a.outs.length:=by omega
  have hg:=kG AV.s a.outs k hlt
  have htk:a.outs.take (k+1)=a.outs.take k++[a.outs[k]]:=List.take_succ_eq_append_getElem hlt
  rw[List.drop_eq_getElem_cons hlt]at hdu
  obtain⟨p,hp⟩:∃p,p=a.outs[k]:=⟨_,rfl⟩
  rw[<-hp]at hg htk hdu
  obtain⟨L1,hL1⟩:∃L1,L1=L++a.outs.take k:=⟨_,rfl⟩
  rw[<-hL1]at hdu
  have hL2:L++a.outs.take (k+1)=L1++[p]:=by rw[htk,hL1,List.append_assoc]
  have hfd:=zd9 p L1
  rw[<-hL1]
  by_cases hin:p∈L1
  ·have hd:dN L a.outs=true:=by rw[hdu];unfold dN;rw[if_pos hin]
   rw[if_pos hin]at hfd
   rw[if_pos hd]at ho1
   have oer1:(obO L1).er=obO L1:=by simp[obO,HObj.er_map,obE,AV.er,Function.comp_def]
   simp (disch:=omega) [zz,hlt',hg,strs,obO,hfd]
   (repeat with_reducible refine om ?_)
   refine hE _ _ (by simp) ?_
   simp (disch:=omega) [zz,Tryz.f66,ho1]
   exact⟨L1,oer1⟩
  ·rw[if_neg hin]at hfd
   have hd:dN L a.outs=dN (L1++[p]) (a.outs.drop (k+1)):=by
    rw[hdu];conv=>lhs;unfold dN
    rw[if_neg hin]
   have hpt:=zgp p L1 hin
   simp (disch:=omega) [zz,hlt',hg,strs,obO,hfd,hpt]
   (repeat with_reducible refine om ?_)
   refine hN _ (k+1) ?_ ⟨by omega,by rw[hL2];exact hd⟩ (by omega)
   apply Le.of<;>simp[zR,qI,z6,hL2,strs,obO]<;>try omega
 ·have hlt':¬(k:Int)<a.outs.length:=by omega
  have hk2:a.outs.length<=k:=by omega
  have hd:dN L a.outs=false:=by rw[hdu,List.drop_of_length_le hk2];rfl
  rw[if_neg (by simp[hd])]at ho1
  rw[List.take_of_length_le hk2]
  have oer2:(obO (L++a.outs)).er=obO (L++a.outs):=by simp[obO,HObj.er_map,obE,AV.er,Function.comp_def]
  simp (disch:=omega) [zz,hlt']
  refine hE _ _ (by simp) ?_
  simp (disch:=omega) [zz,Tryz.f66,ho1]
  exact oer2
end
end Go.Proofs.YtdkieabmeiojjaaGreatDoor
