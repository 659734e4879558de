/- Files are checked: the program. No condition. -/
import Derived.Test.YtdkieabmeiojjaaGreatDoorFW2ToFX2
set_option linter.unusedSimpArgs false
set_option linter.unusedVariables false
set_option linter.unusedSectionVars false
set_option maxHeartbeats 64000000
section
set_option maxRecDepth 100000
namespace Go.Proofs.YtdkieabmeiojjaaGreatDoor
open Go Go.Ab
open Classical
variable [Sel] [SelPow] [SelMax]
def XF (f:jK) (ahead:Txt) (first:Bool):Int :=
 if w5 f.path=false\/f.path=YR\/Z8 f.path YR=true then 7 else
 if first=false/\f.path=ahead then 8 else if first=false/\Op.bytesLess f.path ahead=true then 2 else if 65536<f.data.length then 6 else 0
theorem ziX (f:jK) (ahead:Txt) (first:Bool) (hl:f.path.length<=9223372036854775807):PC Tryz.prog 65 [.av zlN (zK f),.av .str (.s ahead),.av .bool (.b first)] (.av (.int .i64) (.i .i64 (XF f ahead first))):=by
 have hm:=YW f.path hl
 have hu:=zd4 f.path YR hl (by simp[YR])
 refine zow Tryz.func65 cf0 fun imm0 w0=>?_
 simp (disch:=omega) [zz,zK]
 refine zcv hm ?_
 by_cases h1:w5 f.path=true
 rotate_left
 ·have h1':w5 f.path=false:=by simpa using h1
  simp (disch:=omega) [zz,h1',Tryz.f65,XF]
 by_cases h2:f.path=YR
 ·have h2':f.path=[111,117,116]:=h2
  simp (disch:=omega) [zz,h1,h2',Tryz.f65,XF,YR]
 have h2':¬f.path=[111,117,116]:=h2
 simp (disch:=omega) [zz,h1,h2']
 refine qO hu rfl rfl (by simp) (by simp[qR,TV.er,AV.er,YR]) ?_
 by_cases h3:Z8 f.path YR=true
 ·simp (disch:=omega) [zz,h3,Tryz.f65,XF]
 have h3':Z8 f.path YR=false:=by simpa using h3
 cases first with
 | true =>
  by_cases h6:65536<f.data.length
  ·have h6':(65536:Int)<f.data.length:=by omega
   simp (disch:=omega) [zz,h3',h6',Tryz.f65,XF,h1,h2,h6]
  ·have h6':¬(65536:Int)<f.data.length:=by omega
   simp (disch:=omega) [zz,h3',h6',Tryz.f65,XF,h1,h2,h6]
 | false =>
  by_cases h4:f.path=ahead
  ·rw[h4]at h1 h2 h3'
   simp (disch:=omega) [zz,h3',h4,Tryz.f65,XF,h1,h2]
  by_cases h5:Op.bytesLess f.path ahead=true
  ·simp (disch:=omega) [zz,h3',h4,h5,Tryz.f65,XF,h1,h2]
  have h5':Op.bytesLess f.path ahead=false:=by simpa using h5
  by_cases h6:65536<f.data.length
  ·have h6':(65536:Int)<f.data.length:=by omega
   simp (disch:=omega) [zz,h3',h4,h5',h6',Tryz.f65,XF,h1,h2,h6]
  ·have h6':¬(65536:Int)<f.data.length:=by omega
   simp (disch:=omega) [zz,h3',h4,h5',h6',Tryz.f65,XF,h1,h2,h6]
def uM (fs:List jK):Nat->Txt
 | 0=>[]
 | k+1=>match fs[k]? with
  | some f=>f.path
  | none=>[]
theorem zhx (fs:List jK) (k:Nat) (h:k<fs.length):XF fs[k] (uM fs k) (decide (k=0))=JC fs k h:=by
 unfold XF JC
 cases k with
 | zero=>simp
 | succ n =>
  have h2:uM fs (n+1)=(fs[n]'(by omega)).path:=by simp[uM,List.getElem?_eq_getElem (show n<fs.length by omega)]
  simp[h2]
theorem ziQ (fs:List jK) (hn:fs.length<=1000000000) (hl:∀f∈fs,f.path.length<=9223372036854775807) :
  PC Tryz.prog 46 [.av (.slice 43) (qL fs)] (.av (.int .i64) (.i .i64 (XW fs))):=by
 refine zow Tryz.func46 cf0 fun imm0 w0=>?_
 by_cases h6:1024<fs.length
 ·have h6':(1024:Int)<fs.length:=by omega
  have hv:XW fs=6:=by unfold XW;rw[if_pos h6]
  simp (disch:=omega) [zz,qL,h6',hv,Tryz.f46]
 have h6':¬(1024:Int)<fs.length:=by omega
 simp (disch:=omega) [zz,qL,h6']
 refine AT.loop' (α:=Nat) (fun k=>St.of [(3,.av .str (.s (uM fs k))),(10,.av (.slice 43) (qL fs)),(11,.av (.int .i64) (.i .i64 fs.length)),(12,.av (.int .i64) (.i .i64 k))] [] (fun _=>0) [])
  (fun k=>k<=fs.length/\∀j (hj:j<fs.length),j<k->JC fs j hj=0) (fun k=>fs.length-k) 0 ?_ ?_ ?_
 ·apply Le.of<;>simp[zR,qI,z6,qL,uM]<;>try omega
 ·exact⟨by omega,fun j hj h=>by omega⟩
 rintro k ⟨hk,hall⟩ KL hN hE
 refine zrd cf0 ?_
 by_cases hlt:k<fs.length
 ·have hlt':(k:Int)<fs.length:=by omega
  have hg:=kG zK fs k hlt
  have hlk:=ziX fs[k] (uM fs k) (decide (k=0)) (hl _ (List.getElem_mem hlt))
  rw[zhx]at hlk
  have hah:uM fs (k+1)=fs[k].path:=by simp[uM,List.getElem?_eq_getElem hlt]
  have hbad:JC fs k hlt≠0->XW fs=JC fs k hlt:=fun h=>zgN h6 hlt h fun j hj=>hall j (by omega) hj
  obtain⟨f,hf⟩:∃f,f=fs[k]:=⟨_,rfl⟩
  obtain⟨e,he⟩:∃e,e=JC fs k hlt:=⟨_,rfl⟩
  rw[<-hf]at hg hlk hah
  rw[<-he]at hlk hbad
  have hfe:=cC f
  have hk0:((k:Int)=0)<->k=0:=by omega
  simp (disch:=omega) [zz,hlt',hg,qL]
  (repeat with_reducible refine om ?_)
  refine qO hlk rfl rfl (by simp) (by simp[qR,TV.er,AV.er,hfe]) ?_
  by_cases h0:e=0
  ·simp (disch:=omega) [zz,h0,zK]
   (repeat with_reducible refine om ?_)
   refine hN _ (k+1) ?_ ⟨by omega,fun j hj h=>?_⟩ (by omega)
   ·apply Le.of<;>simp[zR,qI,z6,qL,hah]<;>try omega
   ·rcases Nat.lt_or_ge j k with h1|h1
    ·exact hall j hj h1
    ·have:j=k:=by omega
     subst this;rw[<-he];exact h0
  ·have hv:=hbad h0
   simp (disch:=omega) [zz,h0]
   (repeat with_reducible refine om ?_)
   refine hE _ _ (by simp) ?_
   simp (disch:=omega) [zz,hv,Tryz.f46]
 ·have hlt':¬(k:Int)<fs.length:=by omega
  have hv:XW fs=0:=zbV h6 fun j hj=>hall j hj (by omega)
  simp (disch:=omega) [zz,hlt',qL]
  refine hE _ _ (by simp) ?_
  simp (disch:=omega) [zz,hv,Tryz.f46]
def Y3 (t:Txt):Int × Int:=match zL t with
 | .ok _=>(0,0)
 | .error (e,n)=>(e,n)
theorem zg1 (t:Txt) (hl:t.length<=1000000):PC Tryz.prog 98 [.av .str (.s t)] (.tup [(.int .i64,.i .i64 (Y3 t).1),(.int .i64,.i .i64 (Y3 t).2)]):=by
 have hc:=pZ t hl
 refine zow Tryz.func98 cf0 fun imm0 w0=>?_
 unfold CO at hc
 unfold Y3
 cases hcv:zL t with
 | ok cs =>
  rw[hcv]at hc
  simp (disch:=omega) [zz]
  refine zcv hc ?_
  simp (disch:=omega) [zz,Tryz.f98]
 | error e =>
  rw[hcv]at hc
  simp (disch:=omega) [zz]
  refine zcv hc ?_
  simp (disch:=omega) [zz,Tryz.f98]
theorem zjM (p:Txt) (hl:p.length<=2000000):PC Tryz.prog 99 [.av .str (.s p)] (.av .bool (.b (!Z8 p YR))):=by
 have hu:=zd4 p YR (by omega) (by simp[YR])
 refine zow Tryz.func99 cf0 fun imm0 w0=>?_
 simp (disch:=omega) [zz]
 refine qO hu rfl rfl (by simp) (by simp[qR,TV.er,AV.er,YR]) ?_
 simp (disch:=omega) [zz,Tryz.f99]
theorem zjz (p:Txt) (hl:p.length<=2000000):PC Tryz.prog 100 [.av .str (.s p)] (.av .bool (.b (!w5 p))):=by
 have hu:=YW p (by omega)
 refine zow Tryz.func100 cf0 fun imm0 w0=>?_
 simp (disch:=omega) [zz]
 refine zcv hu ?_
 simp (disch:=omega) [zz,Tryz.f100]
theorem zkl (p:Txt) (hl:p.length<=2000000):PC Tryz.prog 101 [.av .str (.s p)] (.av .bool (.b (!CK p))):=by
 have hu:=zgG p hl
 refine zow Tryz.func101 cf0 fun imm0 w0=>?_
 simp (disch:=omega) [zz]
 refine zcv hu ?_
 simp (disch:=omega) [zz,Tryz.f101]
def dN:List Txt->List Txt->Bool
 | _,[]=>false
 | L,p::r=>if p∈L then true else dN (L++[p]) r
noncomputable def pF (a:QT) (L:List Txt):Int :=
 if (Y3 a.tool).1≠0 then(Y3 a.tool).1 else
 if a.outs=[]\/a.outs.any (fun p=>!Z8 p YR)=true\/a.ins.any (fun p=>!w5 p)=true\/a.asks.any (fun p=>!CK p)=true then 1 else
 if dN L a.outs=true then 8 else 0
def obE (L:List Txt):List (AV × AV):=L.map fun p=>(AV.s p,AV.b true)
def obO (L:List Txt):HObj:=.map 9 4 (obE L)
structure zoy (a:QT):Prop where
 b:zm2 a
 o:∀p∈a.outs,p.length<=2000000
 i:∀p∈a.ins,p.length<=2000000
theorem zd9 (p:Txt):∀L:List Txt,wQ (.s p) (obE L)=if p∈L then some (.b true) else none
 | []=>rfl
 | x::l=>by
  have ih:=zd9 p l
  unfold obE at ih |-
  simp only[List.map_cons,wQ]
  by_cases h:x=p
  ·simp[h]
  ·have h2:¬p=x:=fun e=>h e.symm
   simp[h,h2,ih]
theorem zgp (p:Txt):∀L:List Txt,p∉L->K3 (.s p) (.b true) (obE L)=obE (L++[p])
 | [],_=>rfl
 | x::l,h=>by
  have ih:=zgp p l fun h'=>h (by simp[h'])
  have hx:¬x=p:=fun e=>h (by simp[e])
  unfold obE at ih |-
  simp only[List.map_cons,K3,List.cons_append,ih]
  simp[hx]
theorem zlM (a:QT) (ha:zoy a) (M:Nat) (L:List Txt) :
  q7 Tryz.prog 66 [.av zl3 (wW a),.av (.map 9 4) (.map (some M))] [(M,obO L)] fun r H'=>r=.av (.int .i64) (.i .i64 (pF a L))/\∃L2,H'=[(M,obO L2)]/\(pF a L=0->L2=L++a.outs):=by
 have hbt:=ha.b.bt
 have hbo:=ha.b.bo
 have hbi:=ha.b.bi
 have hba:=ha.b.ba
 have htl:=zg1 a.tool hbt
 have ho1:pF a L=pF a L:=rfl
 conv at ho1=>rhs;unfold pF
 have an1:=U2 (fun x=>!Z8 x YR) (.fn 99 []) [] a.outs ⟨rfl,rfl,fun x hx=>⟨[],rfl,by simp,by have h9:=zjM x (ha.o x hx);unfold PC at h9;simpa[TV.er,AV.er]using h9⟩⟩ (by omega)
 have an2:=U2 (fun x=>!w5 x) (.fn 100 []) [] a.ins ⟨rfl,rfl,fun x hx=>⟨[],rfl,by simp,by have h9:=zjz x (ha.i x hx);unfold PC at h9;simpa[TV.er,AV.er]using h9⟩⟩ (by omega)
 have an3:=U2 (fun x=>!CK x) (.fn 101 []) [] a.asks ⟨rfl,rfl,fun x hx=>⟨[],rfl,by simp,by have h9:=zkl x (by have:=ha.b.bae x hx;omega);unfold PC at h9;simpa[TV.er,AV.er]using h9⟩⟩ (by omega)
 have oer:(obO L).er=obO L:=by simp[obO,HObj.er_map,obE,AV.er,Function.comp_def]
 refine zov Tryz.func66 cf0 fun imm0 w0=>?_
 simp (disch:=omega) [zz,wW]
 refine zcv htl ?_
 by_cases h1:(Y3 a.tool).1=0
 rotate_left
 ·rw[if_pos h1]at ho1
  simp (disch:=omega) [zz,h1,Tryz.f66,ho1]
  exact⟨L,oer⟩
 rw[if_neg (by simp[h1])]at ho1
 by_cases h2:a.outs=[]
 ·rw[if_pos (.inl h2)]at ho1
  simp (disch:=omega) [zz,h1,h2,Tryz.f66,ho1]
  exact⟨L,oer⟩
 have h2':¬(a.outs.length:Int)=0:=by simp[h2]
 have h2d:decide (a.outs=[])=false:=by simp[h2]
 have h2e:decide ((a.outs.length:Int)=0)=false:=by simp[h2]
 simp (disch:=omega) [zz,h1,h2,h2',h2d,h2e]
 refine qD (R:=fun r H'=>r=.av .bool (.b (a.outs.any fun x=>!Z8 x YR))/\H'=[]) [] [(M,obO L)] (List.Perm.refl _) rfl (by simp[qE]) (by simp) ?_ ?_
 ·simpa[TV.er,AV.er,q8.er_nil,VO]using an1
 rintro r H' ⟨rfl,rfl⟩ _
 refine⟨[(M,obO L)],HSub.refl _,?_⟩
 cases h3:a.outs.any (fun x=>!Z8 x YR)with
 | true =>
  rw[if_pos (.inr (.inl h3))]at ho1
  simp (disch:=omega) [zz,h1,h2,Tryz.f66,ho1]
  exact⟨L,oer⟩
 | false =>
 simp (disch:=omega) [zz]
 refine qD (R:=fun r H'=>r=.av .bool (.b (a.ins.any fun x=>!w5 x))/\H'=[]) [] [(M,obO L)] (List.Perm.refl _) rfl (by simp[qE]) (by simp) ?_ ?_
 ·simpa[TV.er,AV.er,q8.er_nil,VO]using an2
 rintro r H' ⟨rfl,rfl⟩ _
 refine⟨[(M,obO L)],HSub.refl _,?_⟩
 cases h4:a.ins.any (fun x=>!w5 x)with
 | true =>
  rw[if_pos (.inr (.inr (.inl h4)))]at ho1
  simp (disch:=omega) [zz,h1,h2,Tryz.f66,ho1]
  exact⟨L,oer⟩
 | false =>
 simp (disch:=omega) [zz]
 refine qD (R:=fun r H'=>r=.av .bool (.b (a.asks.any fun x=>!CK x))/\H'=[]) [] [(M,obO L)] (List.Perm.refl _) rfl (by simp[qE]) (by simp) ?_ ?_
 ·simpa[TV.er,AV.er,q8.er_nil,VO]using an3
 rintro r H' ⟨rfl,rfl⟩ _
 refine⟨[(M,obO L)],HSub.refl _,?_⟩
 cases h5:a.asks.any (fun x=>!CK x)with
 | true =>
  rw[if_pos (.inr (.inr (.inr h5)))]at ho1
  simp (disch:=omega) [zz,h1,h2,Tryz.f66,ho1]
  exact⟨L,oer⟩
 | false =>
 simp (disch:=omega) [zz]
 rw[if_neg (by simp[h2,h3,h4,h5])]at ho1
 refine AT.loop' (α:=Nat) (fun k=>St.of [(1,.av (.map 9 4) (.map (some M))),(44,.av (.slice 9) (.sl .no (strs a.outs))),(45,.av (.int .i64) (.i .i64 a.outs.length)),(46,.av (.int .i64) (.i .i64 k))] [] (fun _=>0) [(M,obO (L++a.outs.take k))])
  (fun k=>k<=a.outs.length/\dN L a.outs=dN (L++a.outs.take k) (a.outs.drop k)) (fun k=>a.outs.length-k) 0 ?_ ?_ ?_
 ·apply Le.of<;>simp[zR,qI,z6]<;>try omega
 ·exact⟨by omega,by simp⟩
 rintro k ⟨hk,hdu⟩ KL hN hE
 refine zrd cf0 ?_
 by_cases hlt:k<a.outs.length
 ·have hlt':(k:Int)<a.outs.length:=by omega
  have hg:=kG AV.s a.outs k hlt
  have htk:a.outs.take (k+1)=a.outs.take k++[a.outs[k]]:=List.take_succ_eq_append_getElem hlt
  rw[List.drop_eq_getElem_cons hlt]at hdu
  obtain⟨p,hp⟩:∃p,p=a.outs[k]:=⟨_,rfl⟩
  rw[<-hp]at hg htk hdu
  obtain⟨L1,hL1⟩:∃L1,L1=L++a.outs.take k:=⟨_,rfl⟩
  rw[<-hL1]at hdu
  have hL2:L++a.outs.take (k+1)=L1++[p]:=by rw[htk,hL1,List.append_assoc]
  have hfd:=zd9 p L1
  rw[<-hL1]
  by_cases hin:p∈L1
  ·have hd:dN L a.outs=true:=by rw[hdu];unfold dN;rw[if_pos hin]
   rw[if_pos hin]at hfd
   rw[if_pos hd]at ho1
   have oer1:(obO L1).er=obO L1:=by simp[obO,HObj.er_map,obE,AV.er,Function.comp_def]
   simp (disch:=omega) [zz,hlt',hg,strs,obO,hfd]
   (repeat with_reducible refine om ?_)
   refine hE _ _ (by simp) ?_
   simp (disch:=omega) [zz,Tryz.f66,ho1]
   exact⟨L1,oer1⟩
  ·rw[if_neg hin]at hfd
   have hd:dN L a.outs=dN (L1++[p]) (a.outs.drop (k+1)):=by
    rw[hdu];conv=>lhs;unfold dN
    rw[if_neg hin]
   have hpt:=zgp p L1 hin
   simp (disch:=omega) [zz,hlt',hg,strs,obO,hfd,hpt]
   (repeat with_reducible refine om ?_)
   refine hN _ (k+1) ?_ ⟨by omega,by rw[hL2];exact hd⟩ (by omega)
   apply Le.of<;>simp[zR,qI,z6,hL2,strs,obO]<;>try omega
 ·have hlt':¬(k:Int)<a.outs.length:=by omega
  have hk2:a.outs.length<=k:=by omega
  have hd:dN L a.outs=false:=by rw[hdu,List.drop_of_length_le hk2];rfl
  rw[if_neg (by simp[hd])]at ho1
  rw[List.take_of_length_le hk2]
  have oer2:(obO (L++a.outs)).er=obO (L++a.outs):=by simp[obO,HObj.er_map,obE,AV.er,Function.comp_def]
  simp (disch:=omega) [zz,hlt']
  refine hE _ _ (by simp) ?_
  simp (disch:=omega) [zz,Tryz.f66,ho1]
  exact oer2
end Go.Proofs.YtdkieabmeiojjaaGreatDoor
end
section
set_option maxRecDepth 100000
namespace Go.Proofs.YtdkieabmeiojjaaGreatDoor
open Go Go.Ab
open Classical
variable [Sel]
def tkG (d:Nat):Nat->Tok
 | 0=>.full
 | k+1=>.own d (k+1)
theorem xQ {P:Program} {s:St} {d n:Nat} {e:TypeId} {xs ys:List AV} {K:St->Prop} (hv:s.ver d=n) (h1:2*(xs.length+ys.length)*P.bytesOf e<=281474976710656) (h2:xs.length+ys.length<=4611686018427387904) (h3:zB P e=true) (h4:jC P e=true)
  (hk:K (({ s with ver:=upd s.ver d (n+1) }:St).put (some d) (.av (.slice e) (.sl (tkG d (n+1)) (xs++ys))))):yT P s d e (tkG d n) xs ys K:=by
 refine⟨h1,h2,h3,h4,?_⟩
 cases n with
 | zero=>simpa only[tkG,hv]using hk
 | succ n =>
  refine⟨hv,?_⟩
  have:upd (upd s.ver d (s.ver d+1)) d (s.ver d+1)=upd s.ver d (s.ver d+1):=by
   funext j;simp only[upd];split<;>rfl
  rw[this,hv]
  exact hk
end Go.Proofs.YtdkieabmeiojjaaGreatDoor
end
section
set_option maxRecDepth 100000
namespace Go.Proofs.YtdkieabmeiojjaaGreatDoor
open Go Go.Ab
open Classical
variable [Sel] [SelPow] [SelMax]
structure zV where
 files:List jK
 acts:List QT
 wants:List Txt
 keep:Bool
def yV (w:zV):AV:=.agg [qL w.files,jP w.acts,.sl .no (strs w.wants),.b w.keep]
theorem cS (w:zV):(yV w).er=yV w:=by
 have h1:=j6 w.files
 have h2:=ZT w.acts
 simp[yV,AV.er,AV.ers,h1,h2,AV.ers_eq,strs,Function.comp_def]
def gG (a:QT):List CmdV:=match zL a.tool with
 | .ok cs=>cs
 | .error _=>[]
noncomputable def GO (a:QT):zJ:=X3 a.env a.outs (QS a) (gG a)
noncomputable def qW (w:zV):wB:=⟨fun i=>match w.acts[i]? with
 | some a=>GO a
 | none=>y8 1 (X3 [] [] (fun _=>false) []),wJ w.acts,w.files⟩
structure zoo (a:QT):Prop where
 b:zm2 a
 t:∃cs,zL a.tool=.ok cs
 o:∀p∈a.outs,p.length<=2000000
structure zd8 (w:zV):Prop where
 n:w.acts.length<=1000
 a:∀a∈w.acts,zoo a
 f:w.files.length<=2000000
 l:pS w.files=false
def zm6 (o:wZ):Prop:=pS o.outs=false/\o.outs.length<=2000000
theorem zoo.cs {a:QT} (h:zoo a):zL a.tool=.ok (gG a):=by
 obtain⟨cs,hc⟩:=h.t
 unfold gG;rw[hc]
theorem zaj {l:List QT} {p:Txt} {j:Nat} (h:wJ l p=some j):∃hj:j<l.length,p∈l[j].outs:=by
 obtain⟨hj,h1,_⟩:=List.findIdx?_eq_some_iff_getElem.1 h
 exact⟨hj,by simpa using h1⟩
theorem CP {w:zV} {i:Nat} (h:i<w.acts.length):(qW w).b0 i=GO w.acts[i]:=by
 simp[qW,List.getElem?_eq_getElem h]
section
variable {w:zV} (hw:zd8 w)
include hw
theorem zjW {D:Nat->Option wZ} (hD:∀i o,D i=some o->zm6 o):Ans (kJ (qW w) D):=by
 intro p k hk
 unfold kJ at hk
 cases hm:(qW w).who p with
 | none =>
  rw[hm]at hk
  exact zeF hw.l p k hk
 | some j =>
  rw[hm]at hk
  simp only at hk
  cases hd:D j with
  | none=>rw[hd]at hk;cases hk
  | some o =>
   rw[hd]at hk
   simp only at hk
   split at hk
   ·exact zeF (hD j o hd).1 p k hk
   ·cases hk
theorem zcr:∀(k:Nat) (i:Nat) (o:wZ),fuS (qW w) k i=some o->zm6 o
 | 0,_,_,h=>by cases h
 | k+1,i,o,h=>by
  have hf:=zjW hw (zcr k)
  have h:uK (qW w) (fuS (qW w) k) i=some o:=h
  unfold uK at h
  cases hg:goF (kJ (qW w) (fuS (qW w) k)) 600 ((qW w).b0 i)with
  | none=>rw[hg]at h;cases h
  | some b =>
   rw[hg]at h
   simp only at h
   by_cases hov:b.over=true
   ·rw[if_pos hov]at h
    cases h
    by_cases hi:i<w.acts.length
    ·have ha:=hw.a _ (List.getElem_mem hi)
     have hg2:goF (kJ (qW w) (fuS (qW w) k)) 600 (GO w.acts[i])=some b:=by rw[<-CP hi];exact hg
     have h3:=(zhU ha.b ha.o ha.cs hf hg2 hov).2.2.2
     refine⟨?_,h3.1⟩
     unfold pS
     rw[List.any_eq_false]
     intro f hf2
     have:=(h3.2 f hf2).2
     simp;omega
    ·have hb:(qW w).b0 i=y8 1 (X3 [] [] (fun _=>false) []):=by simp[qW,List.getElem?_eq_none (by omega:w.acts.length<=i)]
     rw[hb,goF,if_pos (show (y8 1 (X3 [] [] (fun _=>false) [])).over=true from rfl)]at hg
     cases hg
     simp[ZH,y8,pS,zm6]
   ·rw[if_neg hov]at h
    cases hm:(qW w).who b.asks with
    | none=>rw[hm]at h;cases h
    | some j =>
     rw[hm]at h
     simp only at h
     cases hd:fuS (qW w) k j with
     | none=>rw[hd]at h;cases h
     | some x =>
      rw[hd]at h
      simp only at h
      split at h
      ·cases h;exact⟨rfl,by simp⟩
      ·cases h
theorem zgE:Ans (kJ (qW w) (jL (qW w))):=zjW hw fun i o h=>by
 obtain⟨k,hk⟩:=ZF.1 h
 exact zcr hw k i o hk
theorem zj4 (i:Nat):zm6 (kS (qW w) i):=by
 unfold kS
 cases h:jL (qW w) i with
 | none=>exact⟨rfl,by simp⟩
 | some o =>
  obtain⟨k,hk⟩:=ZF.1 h
  exact zcr hw k i o hk
theorem zcU {i:Nat} (hi:i<w.acts.length):zfa (qW w) i/\∃kn,WN w.acts[i].env (gG w.acts[i]) w.acts[i].outs (QS w.acts[i]) kn ((qW w).b0 i):=by
 have ha:=hw.a _ (List.getElem_mem hi)
 obtain⟨b',g1,g2,_⟩:=zmO ha.cs (by have:=ha.b.be;omega:w.acts[i].env.length<=1000000000) ha.b.bev (outs:=w.acts[i].outs) (may:=QS w.acts[i]) (zgE hw)
 rw[CP hi]
 exact⟨⟨b',by rw[CP hi];exact g1⟩,[],g2⟩
end
def ovE (l:List (Nat × wZ)):List (AV × AV):=l.map fun p=>(.i .i64 p.1,z7 p.2)
def wyE (l:List Nat):List (AV × AV):=l.map fun i:Nat=>(AV.i .i64 (i:Int),AV.b true)
def wtE (l:List (Nat × Txt)):List (AV × AV):=l.map fun p=>(.i .i64 p.1,.s p.2)
theorem WV (a b:Nat):(AV.i .i64 (a:Int)=.i .i64 (b:Int))<->a=b:=by
 constructor
 ·intro h;injection h with _ h;omega
 ·rintro rfl;rfl
theorem dP (i:Nat):∀l:List (Nat × wZ),wQ (.i .i64 (i:Int)) (ovE l)=(l.find? fun p=>decide (p.1=i)).map fun p=>z7 p.2
 | []=>rfl
 | p::l=>by
  have ih:=dP i l
  simp only[ovE,List.map_cons,wQ,WV,List.find?_cons]at ih |-
  by_cases h:p.1=i
  ·simp[h]
  ·simp[h,ih]
theorem zdA (i:Nat):∀l:List Nat,wQ (.i .i64 (i:Int)) (wyE l)=if i∈l then some (.b true) else none
 | []=>rfl
 | x::l=>by
  have ih:=zdA i l
  simp only[wyE,List.map_cons,wQ,WV,List.mem_cons]at ih |-
  by_cases h:x=i
  ·simp[h]
  ·have h':¬i=x:=fun e=>h e.symm
   simp[h,h',ih]
theorem zh7 (i:Nat):∀l:List Nat,i∉l->K3 (.i .i64 (i:Int)) (.b true) (wyE l)=wyE (l++[i])
 | [],_=>rfl
 | x::l,h=>by
  simp only[List.mem_cons,not_or]at h
  have ih:=zh7 i l h.2
  have hx:¬x=i:=fun e=>h.1 e.symm
  simp only[wyE,List.map_cons,K3,WV,List.cons_append,hx,if_false]at ih |-
  rw[ih]
theorem dD (i:Nat):∀l:List Nat,i∉l->C3 (.i .i64 (i:Int)) (wyE (l++[i]))=wyE l
 | [],_=>by simp[wyE,C3]
 | x::l,h=>by
  simp only[List.mem_cons,not_or]at h
  have ih:=dD i l h.2
  have hx:¬x=i:=fun e=>h.1 e.symm
  simp only[wyE,List.map_cons,C3,WV,List.cons_append,hx,if_false]at ih |-
  rw[ih]
theorem zhj (i:Nat) (o:wZ):∀l:List (Nat × wZ),i∉l.map Prod.fst->K3 (.i .i64 (i:Int)) (z7 o) (ovE l)=ovE (l++[(i,o)])
 | [],_=>rfl
 | x::l,h=>by
  simp only[List.map_cons,List.mem_cons,not_or]at h
  have ih:=zhj i o l h.2
  have hx:¬x.1=i:=fun e=>h.1 e.symm
  simp only[ovE,List.map_cons,K3,WV,List.cons_append,hx,if_false]at ih |-
  rw[ih]
def C8 (i:Nat) (p:Txt):List (Nat × Txt)->List (Nat × Txt)
 | []=>[(i,p)]
 | x::l=>if x.1=i then(i,p)::l else x::C8 i p l
theorem zgR (i:Nat) (p:Txt):∀l:List (Nat × Txt),K3 (.i .i64 (i:Int)) (.s p) (wtE l)=wtE (C8 i p l)
 | []=>rfl
 | x::l=>by
  have ih:=zgR i p l
  simp only[wtE,List.map_cons,K3,WV,C8]at ih |-
  by_cases h:x.1=i
  ·simp[h]
  ·simp[h,ih]
theorem GH (i:Nat) (p:Txt) (j:Nat):∀l:List (Nat × Txt),(C8 i p l).find? (fun q=>decide (q.1=j))=if j=i then some (i,p) else l.find? fun q=>decide (q.1=j)
 | []=>by
  by_cases h:j=i
  ·simp[C8,h]
  ·have h':¬i=j:=fun e=>h e.symm
   simp[C8,h,h']
 | x::l=>by
  have ih:=GH i p j l
  unfold C8
  by_cases hx:x.1=i
  ·rw[if_pos hx]
   by_cases h:j=i
   ·simp[h]
   ·have h':¬i=j:=fun e=>h e.symm
    have h2:¬x.1=j:=fun e=>h (by omega)
    simp[h,h',h2]
  ·rw[if_neg hx,List.find?_cons]
   by_cases h2:x.1=j
   ·have h:¬j=i:=fun e=>hx (by omega)
    simp[h2,h]
   ·simp only[h2,decide_false]
    rw[ih,List.find?_cons]
    simp only[h2,decide_false]
noncomputable abbrev BdT:TyD:=q9 Tryz.prog 86
noncomputable def bdO (w:zV) (O Y T:Nat):HObj:=.var BdT (.agg [yV w,.map (some O),.map (some Y),.map (some T)])
noncomputable def bdH (B O Y T:Nat) (w:zV) (W:List Nat) (x:BdV):q8:=[(B,bdO w O Y T),(O,.map 3 31 (ovE x.ov)),(Y,.map 3 4 (wyE W)),(T,.map 3 9 (wtE x.wt))]
@[simp] theorem zkf (w:zV) (O Y T:Nat):(bdO w O Y T).er=bdO w O Y T:=by
 simp[bdO,HObj.er_var,yV,jP,AV.erk,AV.erks,AV.ers_eq,Function.comp_def,strs,AV.er]
@[simp] theorem zog (l:List (Nat × wZ)):(ovE l).map (fun p=>(p.1.er,p.2.er))=ovE l:=by
 simp only[ovE,List.map_map]
 exact List.map_congr_left fun p _=>by simp[AV.er,Q5]
@[simp] theorem zoJ (l:List Nat):(wyE l).map (fun p=>(p.1.er,p.2.er))=wyE l:=by
 simp only[wyE,List.map_map]
 exact List.map_congr_left fun p _=>by simp[AV.er]
@[simp] theorem zoh (l:List (Nat × Txt)):(wtE l).map (fun p=>(p.1.er,p.2.er))=wtE l:=by
 simp only[wtE,List.map_map]
 exact List.map_congr_left fun p _=>by simp[AV.er]
@[simp] theorem znK (l:List QT):(jP l).erk=jP l:=by simp[jP,AV.erk,AV.ers_eq,Function.comp_def]
theorem YD (B O Y T:Nat) (w:zV) (W:List Nat) (x:BdV):(bdH B O Y T w W x).er=bdH B O Y T w W x:=by
 simp only[bdH,q8.er_cons,q8.er_nil,zkf,HObj.er_map,zog,zoJ,zoh]
end Go.Proofs.YtdkieabmeiojjaaGreatDoor
end
section
set_option maxRecDepth 100000
namespace Go.Proofs.YtdkieabmeiojjaaGreatDoor
open Go Go.Ab
open Classical
variable [Sel] [SelPow] [SelMax]
noncomputable abbrev zhJ:TyD:=q9 Tryz.prog 31
structure NeB (B O Y T:Nat):Prop where
 bo:O≠B
 by':Y≠B
 bt:T≠B
 oy:Y≠O
 ot:T≠O
 yt:T≠Y
theorem zha {B O Y T:Nat} {w:zV} {W:List Nat} {x:BdV} (h:(bdH B O Y T w W x).keys.Nodup):NeB B O Y T:=by
 simp only[bdH,q8.keys,List.map_cons,List.map_nil,List.nodup_cons,List.mem_cons,List.not_mem_nil,or_false,not_or,not_false_eq_true,and_true,List.nodup_nil]at h
 obtain⟨⟨h1,h2,h3⟩,⟨h4,h5⟩,h6⟩:=h
 exact⟨fun e=>h1 e.symm,fun e=>h2 e.symm,fun e=>h3 e.symm,fun e=>h4 e.symm,fun e=>h5 e.symm,fun e=>h6 e.symm⟩
def BrC (B O Y T:Nat) (w:zV) (W:List Nat) (i:Nat) (x:BdV):Prop :=
 q7 Tryz.prog 24 [.av .ptr (.ptr B BdT []),.av (.int .i64) (.i .i64 i)] (bdH B O Y T w W x) fun r H'=>∃x',r=.av zhJ (z7 (kS (qW w) i))/\KN (qW w) w.acts.length W x'/\(∀j,j∈x.ov.map Prod.fst->j∈x'.ov.map Prod.fst)/\i∈x'.ov.map Prod.fst/\PQ (qW w) x x' i/\H'=bdH B O Y T w W x'
def ziV (B O Y T:Nat) (w:zV) (W:List Nat) (p:Txt) (x:BdV) (r:TV) (H':q8):Prop:=∃x',r=.tup [(KnT,jD (JD (qW w) W p).1),(.int .i64,.i .i64 (JD (qW w) W p).2)]/\KN (qW w) w.acts.length W x'/\(∀j,j∈x.ov.map Prod.fst->j∈x'.ov.map Prod.fst)/\(∀j,wJ w.acts p=some j->j∈W\/j∈x'.ov.map Prod.fst)/\ziO (qW w) x x' p/\H'=bdH B O Y T w W x'
abbrev zq8:Cfg:=⟨fun _=>false,fun _=>false⟩
theorem ze5 (B O Y T:Nat) (w:zV) (hw:zd8 w) (W:List Nat) (p:Txt) (x:BdV) (hx:KN (qW w) w.acts.length W x)
  (hb:∀j,wJ w.acts p=some j->j∉W->BrC B O Y T w W j x) :
  q7 Tryz.prog 35 [.av .ptr (.ptr B BdT []),.av .str (.s p)] (bdH B O Y T w W x) (ziV B O Y T w W p x):=by
 refine q7.nodup fun hnd=>?_
 have hne:=zha hnd
 have n1:¬B=Y:=fun e=>hne.by' e.symm
 have n2:¬O=Y:=fun e=>hne.oy e.symm
 have hmk:=zdw w.acts (by have:=hw.n;omega) (fun a ha=>by have:=(hw.a a ha).b.bo;omega) p
 have hea:=ZT w.acts
 have hef:=j6 w.files
 have hbe:=zkf w O Y T
 have hHe:=YD B O Y T w W x
 have hbd:∀x,bdH B O Y T w W x=[(B,.var BdT (.agg [.agg [qL w.files,jP w.acts,.sl .no (strs w.wants),.b w.keep],.map (some O),.map (some Y),.map (some T)])),(O,.map 3 31 (ovE x.ov)),(Y,.map 3 4 (wyE W)),(T,.map 3 9 (wtE x.wt))]:=fun _=>rfl
 have hwho:(qW w).who p=wJ w.acts p:=rfl
 have hfs:(qW w).fs=w.files:=rfl
 refine zov Tryz.func35 zq8 fun imm0 w0=>?_
 simp (disch:=omega) [zz,hbd]
 refine qO hmk rfl rfl (by simp) (by simp[qR,TV.er,AV.er,hea]) ?_
 cases hm:wJ w.acts p with
 | none =>
  have hc:JD (qW w) W p=(JI w.files p,1):=by unfold JD;rw[hwho,hm];rfl
  have htg:=zgQ w.files (by have:=hw.f;omega) p
  have htp:=zby w.files p
  simp (disch:=omega) [zz]
  refine qO htg rfl rfl (by simp) (by simp[qR,TV.er,AV.er,hef]) ?_
  simp (disch:=omega) [zz,Tryz.f35]
  exact⟨x,by rw[hc];simp[jD,htp],hx,fun _ h=>h,fun j h=>(by rw[hm]at h;cases h),.refl _ _ _,by simp[hbd]⟩
 | some j =>
  obtain⟨hj,_⟩:=zaj hm
  have hfd:=zdA j W
  by_cases hjW:j∈W
  ·have hc:JD (qW w) W p=(⟨p,false,[]⟩,3):=by unfold JD;rw[hwho,hm];simp only;rw[if_pos hjW]
   rw[if_pos hjW]at hfd
   simp (disch:=omega) [zz,n1,n2,hfd]
   simp (disch:=omega) [zz,Tryz.f35]
   exact⟨x,by rw[hc];simp[jD],hx,fun _ h=>h,fun k h=>(by rw[hm]at h;cases h;exact .inl hjW),.refl _ _ _,by simp[hbd]⟩
  ·rw[if_neg hjW]at hfd
   have hbr:=hb j hm hjW
   have hc:JD (qW w) W p=if (kS (qW w) j).kind=1 then(JI (kS (qW w) j).outs p,1) else(⟨p,false,[]⟩,(kS (qW w) j).kind):=by unfold JD;rw[hwho,hm];simp only;rw[if_neg hjW]
   simp (disch:=omega) [zz,n1,n2,hfd]
   refine qD (R:=fun r H'=>∃x',r=.av zhJ (z7 (kS (qW w) j))/\KN (qW w) w.acts.length W x'/\(∀k,k∈x.ov.map Prod.fst->k∈x'.ov.map Prod.fst)/\j∈x'.ov.map Prod.fst/\PQ (qW w) x x' j/\H'=bdH B O Y T w W x') (bdH B O Y T w W x) [] (by simp[hbd]) rfl (by simp[qE]) (by simp) ?_ ?_
   ·rw[hHe]
    exact q7.args hbr (by simp[qR,TV.er,AV.er])
   rintro r' H' ⟨x',rfl,hx',hsub,hji,hnb,rfl⟩ _
   have hnp:ziO (qW w) x x' p:=fun k hk=>(hnb k hk).imp_right fun h=>⟨j,hm,h⟩
   refine⟨bdH B O Y T w W x',by simpa using HSub.refl _,?_⟩
   have hHe':=YD B O Y T w W x'
   obtain⟨o,ho⟩:∃o,o=kS (qW w) j:=⟨_,rfl⟩
   rw[<-ho]at hc |-
   have hend:∀k,wJ w.acts p=some k->k∈W\/k∈x'.ov.map Prod.fst:=fun k h=>by rw[hm]at h;cases h;exact .inr hji
   by_cases hk:o.kind=1
   ·rw[if_pos hk]at hc
    have htg:=zgQ o.outs (by have:=(zj4 hw j).2;rw[<-ho]at this;omega) p
    have htp:=zby o.outs p
    have heo:=j6 o.outs
    simp (disch:=omega) [zz,z7,hk]
    refine qO htg rfl rfl (by simp) (by simp[qR,TV.er,AV.er,heo]) ?_
    simp (disch:=omega) [zz,Tryz.f35]
    exact⟨x',by rw[hc];simp[jD,htp],hx',hsub,hend,hnp,hHe'⟩
   ·rw[if_neg hk]at hc
    simp (disch:=omega) [zz,z7,hk]
    (repeat with_reducible refine om ?_)
    simp (disch:=omega) [zz,Tryz.f35]
    exact⟨x',by rw[hc];simp[jD],hx',hsub,hend,hnp,hHe'⟩
end Go.Proofs.YtdkieabmeiojjaaGreatDoor
end
