/- Files and makers of paths are looked up: the program. No condition. -/
import Derived.Test.YtdkieabmeiojjaaGreatDoorSC0ToFT0a
set_option linter.unusedSimpArgs false
set_option linter.unusedVariables false
set_option linter.unusedSectionVars false
set_option maxHeartbeats 64000000
set_option maxRecDepth 100000
namespace Go.Proofs.YtdkieabmeiojjaaGreatDoor
open Go Go.Ab
open Classical
section
variable [Sel] [SelPow] [SelMax]
theorem zkW (b:Nat) (p:Txt) (x:jK):q7 Tryz.prog 90 [.av zlN (zK x),.av .ptr (.ptr b .str [])] [(b,qS p)] fun r H'=>r=.av .bool (.b (decide (x.path=p)))/\H'=[(b,qS p)]:=by
 refine zov Tryz.func90 cf0 fun imm0 w0=>?_
 simp (disch:=omega) [zz,qS,zK]
 simp (disch:=omega) [zz,Tryz.f90]
abbrev zqf:Cfg:=⟨fun n=>n==3,fun _=>false⟩
theorem zgQ (fs:List jK) (hn:fs.length<=1000000000) (p:Txt):PC Tryz.prog 56 [.av (.slice 43) (qL fs),.av .str (.s p)] (.tup [(.str,.s (JI fs p).data),(.bool,.b (JI fs p).is)]):=by
 have hef:=j6 fs
 refine q7.sub (R:=fun r H'=>r=.tup [(.str,.s (JI fs p).data),(.bool,.b (JI fs p).is)]) ?_ (fun r H' hr _=>⟨[],HSub.of_sub (List.nil_sublist _),hr,rfl⟩)
 refine zov Tryz.func56 zqf fun imm0 w0=>?_
 simp (disch:=omega) [zz]
 intro b
 have hf:zki (.fn 90 [.ptr b .str []]) [(b,qS p)] (fun x=>decide (x.path=p)) fs:=⟨rfl,rfl,fun x hx=>⟨_,rfl,by simp,by simpa[TV.er,AV.er]using zkW b p x⟩⟩
 refine qD (R:=fun r' H'=>r'=.av (.int .i64) (.i .i64 (QJ (fun x:jK=>decide (x.path=p)) fs))/\H'=[(b,qS p)]) [(b,qS p)] [] (by simp[qS]) rfl (by simp[qE]) (by simp) ?_ ?_
 ·have:=zms _ _ _ fs hf hn
  simpa[TV.er,AV.er,hef,q8.er_cons,qS,HObj.er_var,AV.erk]using this
 rintro r' H' ⟨rfl,rfl⟩ _
 refine⟨_,HSub.refl _,?_⟩
 rcases CE (fun x:jK=>decide (x.path=p)) fs with⟨he,hf⟩|⟨i,hi,he,hf⟩
 ·have ht:JI fs p=⟨p,false,[]⟩:=by unfold JI;rw[hf]
  rw[he,ht]
  simp (disch:=omega) [zz,Tryz.f56]
 ·have ht:JI fs p=⟨p,true,fs[i].data⟩:=by unfold JI;rw[hf]
  have hg:=kG zK fs i hi
  have hi':(i:Int)<fs.length:=by omega
  have hi0:¬(i:Int)<0:=by omega
  rw[he,ht]
  simp (disch:=omega) [zz,hi',hi0,qL,hg,zK,Tryz.f56]
def znO (f:AV) (Hs:q8) (g:QT->Bool) (ts:List QT):Prop:=Hs.er=Hs/\f.er=f/\∀x∈ts,VC1 f [.av zl3 (wW x)] Hs fun r H'=>r=.av .bool (.b (g x))/\H'=Hs
def jP (l:List QT):AV:=.sl .no (l.map wW)
theorem ZT (l:List QT):(jP l).er=jP l:=by simp[jP,AV.er,AV.ers_eq,Function.comp_def]
theorem zmW (g:QT->Bool) (f:AV) (Hs:q8) (ts:List QT) (hf:znO f Hs g ts) (hn:ts.length<=1000000000) :
  q7 Tryz.prog 57 [.av (.slice 49) (jP ts),.av .func f] Hs
   fun r H'=>r=.av (.int .i64) (.i .i64 (QJ g ts))/\H'=Hs:=by
 obtain⟨ho,hfe,hff⟩:=hf
 refine zov Tryz.func57 cf0 fun imm0 w0=>?_
 simp (disch:=omega) [zz,jP]
 refine AT.loop' (α:=Nat) (fun k=>St.of [(0,.av (.slice 49) (.sl .no (ts.map wW))),(1,.av .func f),(7,.av (.int .i64) (.i .i64 ts.length)),(8,.av (.int .i64) (.i .i64 k))] [] (fun _=>0) Hs)
  (fun k=>k<=ts.length/\∀x∈ts.take k,g x=false) (fun k=>ts.length-k) 0 ?_ ?_ ?_
 ·apply Le.of<;>simp[zR,qI]
 ·simp
 rintro k ⟨hk',hpk⟩ KL hN hE
 refine zrd cf0 ?_
 by_cases hlt:k<ts.length
 ·have hlt':(k:Int)<ts.length:=by omega
  have hg:=kG wW ts k hlt
  simp (disch:=omega) [zz,hlt',hg]
  refine Q6 (R:=fun r' H'=>r'=.av .bool (.b (g ts[k]))/\H'=Hs) Hs [] (by simp) ho (by simp[qE]) (hff _ (List.getElem_mem hlt)) ?_
  rintro r' H' ⟨rfl,rfl⟩ _
  refine⟨H',by simpa using HSub.refl _,?_⟩
  by_cases hp:g ts[k]=true
  ·simp (disch:=omega) [zz,hp]
   refine hE _ _ (by simp) ?_
   simp (disch:=omega) [zz,Tryz.f57,JR hlt hpk hp,ho]
  ·simp (disch:=omega) [zz,hp]
   refine hN _ (k+1) ?_ ⟨by omega,by rw[yC hlt];exact⟨hpk,by simpa using hp⟩⟩ (by omega)
   apply Le.of<;>simp[zR,qI]
 ·have hlt':¬(k:Int)<ts.length:=by omega
  simp (disch:=omega) [zz,hlt']
  refine hE _ _ (by simp) ?_
  rw[List.take_of_length_le (by omega)]at hpk
  simp (disch:=omega) [zz,Tryz.f57,ZP hpk,ho]
theorem zox (b:Nat) (p:Txt) (x:QT) (hx:x.outs.length<=2000000):q7 Tryz.prog 58 [.av zl3 (wW x),.av .ptr (.ptr b .str [])] [(b,qS p)] fun r H'=>r=.av .bool (.b (decide (p∈x.outs)))/\H'=[(b,qS p)]:=by
 have hc:=ZC x.outs p (by omega)
 refine zov Tryz.func58 cf0 fun imm0 w0=>?_
 simp (disch:=omega) [zz,qS,wW]
 refine qO hc rfl rfl (by simp) (by simp[qR,TV.er,AV.er,AV.ers_eq,strs,Function.comp_def]) ?_
 simp (disch:=omega) [zz,Tryz.f58]
def wJ (l:List QT) (p:Txt):Option Nat:=l.findIdx? fun a=>decide (p∈a.outs)
abbrev zpg:Cfg:=⟨fun n=>n==3,fun _=>false⟩
theorem zdw (l:List QT) (hl:l.length<=2000000) (ho:∀a∈l,a.outs.length<=2000000) (p:Txt):PC Tryz.prog 37 [.av (.slice 49) (jP l),.av .str (.s p)] (.tup [(.int .i64,.i .i64 ((wJ l p).getD 0:Nat)),(.bool,.b (wJ l p).isSome)]):=by
 have hef:=ZT l
 refine q7.sub (R:=fun r H'=>r=.tup [(.int .i64,.i .i64 ((wJ l p).getD 0:Nat)),(.bool,.b (wJ l p).isSome)]) ?_ (fun r H' hr _=>⟨[],HSub.of_sub (List.nil_sublist _),hr,rfl⟩)
 refine zov Tryz.func37 zpg fun imm0 w0=>?_
 simp (disch:=omega) [zz]
 intro b
 have hf:znO (.fn 58 [.ptr b .str []]) [(b,qS p)] (fun x=>decide (p∈x.outs)) l:=⟨rfl,rfl,fun x hx=>⟨_,rfl,by simp,by simpa[TV.er,AV.er]using zox b p x (ho x hx)⟩⟩
 refine qD (R:=fun r' H'=>r'=.av (.int .i64) (.i .i64 (QJ (fun x:QT=>decide (p∈x.outs)) l))/\H'=[(b,qS p)]) [(b,qS p)] [] (by simp[qS]) rfl (by simp[qE]) (by simp) ?_ ?_
 ·have:=zmW _ _ _ l hf (by omega)
  simpa[TV.er,AV.er,hef,q8.er_cons,qS,HObj.er_var,AV.erk]using this
 rintro r' H' ⟨rfl,rfl⟩ _
 refine⟨_,HSub.refl _,?_⟩
 have hix:QJ (fun x:QT=>decide (p∈x.outs)) l=match wJ l p with|some i=>(i:Int)|none=>-1:=rfl
 rw[hix]
 cases hm:wJ l p with
 | none=>simp (disch:=omega) [zz,Tryz.f37]
 | some i =>
  have h0:(0:Int)<=i:=by omega
  have hmx:max (i:Int) 0=i:=by omega
  simp (disch:=omega) [zz,h0,hmx,Tryz.f37]
  omega
theorem zk1 (k:KnV) (hk:k.data.length<=1000000000000):PC Tryz.prog 52 [.av KnT (jD k)] (.av (q9 Tryz.prog 97) (qX (QW k))):=by
 have hs:=zlD k.data hk
 refine zow Tryz.func52 cf0 fun imm0 w0=>?_
 by_cases h:k.is=true
 ·simp (disch:=omega) [zz,jD,h]
  (repeat with_reducible refine om ?_)
  refine kP hs rfl rfl (by simp) (by simp[qR,coC,TV.er,AV.er,AV.ers,zeQ]) ?_
  simp (disch:=omega) [zz]
  (repeat with_reducible refine om ?_)
  simp (disch:=omega) [zz,Tryz.f52,qX,QW,h]
 ·have h':k.is=false:=by simpa using h
  simp (disch:=omega) [zz,jD,h',Tryz.f52,qX,QW]
  rfl
end
end Go.Proofs.YtdkieabmeiojjaaGreatDoor
