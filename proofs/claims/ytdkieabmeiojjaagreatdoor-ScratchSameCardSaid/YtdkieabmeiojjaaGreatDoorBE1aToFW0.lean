/- The law BoxEnds: the program. No condition. -/
import Derived.Test.YtdkieabmeiojjaaGreatDoorBE0
set_option linter.unusedSimpArgs false
set_option linter.unusedVariables false
set_option linter.unusedSectionVars false
set_option maxHeartbeats 64000000
set_option maxRecDepth 100000
namespace Go.Proofs.YtdkieabmeiojjaaGreatDoor
open Go Go.Ab
open Classical
section
variable [Sel] [SelPow] [SelMax]
noncomputable def goF (f:Txt->Option KnV):Nat->zJ->Option zJ
 | 0,_=>none
 | n+1,b=>if b.over=true then some b else match f b.asks with
  | none=>some b
  | some k=>goF f n (y4 k b).2
def Ans (f:Txt->Option KnV):Prop:=∀p k,f p=some k->k.path=p/\k.data.length<=65536
theorem znQ {env:List (Txt × Txt)} {c0:CfV} {outs:List Txt} {may:Txt->Bool} {f:Txt->Option KnV} (hf:Ans f):∀(n:Nat) {kn:List KnV} {wr:List DoV} {b:zJ},X4 env c0 kn outs may wr b->500-kn.length<n->
  ∃b',goF f n b=some b'/\(b'.over=true\/f b'.asks=none)
 | 0,_,_,_,_,h=>absurd h (Nat.not_lt_zero _)
 | n+1,kn,wr,b,h,hn=>by
  rw[goF]
  by_cases ho:b.over=true
  ·simp_all
  rw[if_neg ho]
  have ho':b.over=false:=by simp_all
  cases hk:f b.asks with
  | none=>simp_all
  | some k =>
   simp only
   obtain⟨hk1,hk2⟩:=hf _ _ hk
   obtain⟨_,m,hg⟩:=h.give ho' k hk1 (fun _=>hk2)
   have hl:=hg.len
   simp only[List.length_append,List.length_cons,List.length_nil]at hl
   exact znQ hf n hg (by grind)
theorem zmO {t:Txt} {cs:List CmdV} (hcs:zL t=.ok cs) {env:List (Txt × Txt)} (h1:env.length<=1000000000) (h2:∀x∈env,x.2.length<=1000000000000000) {outs:List Txt} {may:Txt->Bool} {f:Txt->Option KnV} (hf:Ans f) :
  ∃b',goF f 600 (X3 env outs may cs)=some b'/\WN env cs outs may [] (X3 env outs may cs)/\(b'.over=true\/f b'.asks=none):=by
 obtain⟨m,h⟩:=zfq env outs may cs (Q8 hcs)
 obtain⟨b',g1,g2⟩:=znQ hf 600 h (by simp)
 grind [dV]
theorem znp {env:List (Txt × Txt)} {cs:List CmdV} {outs:List Txt} {may:Txt->Bool} {f:Txt->Option KnV} (hf:Ans f):∀(n:Nat) {kn:List KnV} {b b':zJ},WN env cs outs may kn b->goF f n b=some b'->∃kn',WN env cs outs may kn' b'
 | 0,_,_,_,_,h=>by cases h
 | n+1,kn,b,b',hk,h=>by
  rw[goF]at h
  by_cases ho:b.over=true
  ·grind
  rw[if_neg ho]at h
  have ho':b.over=false:=by simp_all
  cases hfk:f b.asks with
  | none=>grind
  | some k =>
   rw[hfk]at h
   simp only at h
   obtain⟨hk1,hk2⟩:=hf _ _ hfk
   exact znp hf n (hk.give k ho' hk1 (fun _=>hk2)).2 h
theorem zdX {b:zJ} {k:KnV} (ho:b.over=false) (hp:k.path=b.asks) (hd:k.data.length<=65536):(y4 k b).2.reads=b.reads++[QW k]:=by
 simp_all[y4,if_neg,zfg]
def JI (fs:List jK) (p:Txt):KnV:=match fs.find? fun f=>decide (f.path=p)with
 | none=>⟨p,false,[]⟩
 | some f=>⟨p,true,f.data⟩
def pS (fs:List jK):Bool:=fs.any fun f=>decide (65536<f.data.length)
noncomputable def zpp (fs:List jK):Txt->Option KnV:=fun p=>some (JI fs p)
theorem zby (fs:List jK) (p:Txt):(JI fs p).path=p:=by grind [JI]
theorem zeF {fs:List jK} (h:pS fs=false):Ans (zpp fs):=by
 intro p k hk
 have hk:=(Option.some.inj hk).symm
 grind [JI,pS]
abbrev zlN:TyD:=.struct [9,9]
def zki (f:AV) (Hs:q8) (g:jK->Bool) (ts:List jK):Prop:=Hs.er=Hs/\f.er=f/\∀x∈ts,VC1 f [.av zlN (zK x)] Hs fun r H'=>r=.av .bool (.b (g x))/\H'=Hs
theorem zms (g:jK->Bool) (f:AV) (Hs:q8) (ts:List jK) (hf:zki f Hs g ts) (hn:ts.length<=1000000000) :
  q7 Tryz.prog 30 [.av (.slice 43) (qL ts),.av .func f] Hs
   fun r H'=>r=.av (.int .i64) (.i .i64 (QJ g ts))/\H'=Hs:=by
 obtain⟨ho,hfe,hff⟩:=hf
 refine zov Tryz.func30 cf0 fun imm0 w0=>?_
 simp (disch:=omega) [zz,qL]
 refine AT.loop' (α:=Nat) (fun k=>St.of [(0,.av (.slice 43) (.sl .no (ts.map zK))),(1,.av .func f),(7,.av (.int .i64) (.i .i64 ts.length)),(8,.av (.int .i64) (.i .i64 k))] [] (fun _=>0) Hs)
  (fun k=>k<=ts.length/\∀x∈ts.take k,g x=false) (fun k=>ts.length-k) 0 ?_ ?_ ?_
 ·apply Le.of<;>simp[zR,qI]
 ·simp
 rintro k ⟨hk',hpk⟩ KL hN hE
 refine zrd cf0 ?_
 by_cases hlt:k<ts.length
 ·have hlt':(k:Int)<ts.length:=by omega
  have hg:=kG zK ts k hlt
  simp (disch:=omega) [zz,hlt',hg]
  refine Q6 (R:=fun r' H'=>r'=.av .bool (.b (g ts[k]))/\H'=Hs) Hs [] (by simp) ho (by simp[qE]) (hff _ (List.getElem_mem hlt)) ?_
  rintro r' H' ⟨rfl,rfl⟩ _
  refine⟨H',by simpa using HSub.refl _,?_⟩
  by_cases hp:g ts[k]=true
  ·simp (disch:=omega) [zz,hp]
   refine hE _ _ (by simp) ?_
   simp (disch:=omega) [zz,Tryz.f30,JR hlt hpk hp,ho]
  ·simp (disch:=omega) [zz,hp]
   refine hN _ (k+1) ?_ ⟨by omega,by rw[yC hlt];exact⟨hpk,by simpa using hp⟩⟩ (by omega)
   apply Le.of<;>simp[zR,qI]
 ·have hlt':¬(k:Int)<ts.length:=by omega
  simp (disch:=omega) [zz,hlt']
  refine hE _ _ (by simp) ?_
  rw[List.take_of_length_le (by omega)]at hpk
  simp (disch:=omega) [zz,Tryz.f30,ZP hpk,ho]
end
end Go.Proofs.YtdkieabmeiojjaaGreatDoor
