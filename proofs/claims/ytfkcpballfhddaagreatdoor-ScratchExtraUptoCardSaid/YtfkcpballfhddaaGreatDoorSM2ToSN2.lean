/- An action more whose file nobody reads; plain. No condition. -/
import Derived.Test.YtfkcpballfhddaaGreatDoorSC2
import Derived.Test.YtfkcpballfhddaaGreatDoorSG0ToSNa
set_option linter.unusedSimpArgs false
set_option linter.unusedVariables false
set_option linter.unusedSectionVars false
set_option maxHeartbeats 64000000
section
set_option maxRecDepth 100000
namespace Go.Proofs.YtfkcpballfhddaaGreatDoor
open Go Go.Ab
open Classical
variable [Sel] [SelPow] [SelMax]
def exP:Txt:=[111,117,116,47,101,120,116,114,97]
def exA (tool:Txt):wD:=⟨[],[],tool,[],[],[[42,42]],[exP]⟩
def ZH (w:qQ) (tool:Txt):qQ:=⟨w.files,w.acts++[exA tool],w.wants,w.keep⟩
theorem zg6 {w:qQ} {tool:Txt} {i:Nat} (hi:i<w.acts.length):(ZH w tool).acts[i]'(by simp[ZH];omega)=w.acts[i]:=by
 simp[ZH,List.getElem_append_left hi]
theorem zhL {w:qQ} {tool p:Txt} (hp:p≠exP):jK (ZH w tool).acts p=jK w.acts p:=by
 unfold jK ZH
 rw[List.findIdx?_append]
 have:List.findIdx? (fun a:wD=>decide (p∈a.outs)) [exA tool]=none:=by
  simp[exA,List.findIdx?_cons,hp]
 rw[this]
 simp
theorem zkr {w:qQ} {tool:Txt} (h:WkL (ZH w tool)):jK w.acts exP=none:=by
 cases hm:jK w.acts exP with
 | none=>rfl
 | some j =>
  exfalso
  obtain⟨hj,hp⟩:=Q6 hm
  have h1:w.acts.length<(ZH w tool).acts.length:=by simp[ZH]
  have h2:exP∈((ZH w tool).acts[w.acts.length]'h1).outs:=by simp[ZH,exA]
  have:=h.uniq (by omega:j<(ZH w tool).acts.length) h1 (by rw[zg6 hj];exact hp) h2
  omega
section
variable {w:qQ} (hw:gA w)
include hw
theorem cP {i:Nat} (hi:i<w.acts.length) {b c:j9} (h:kM (kF (qL w) (jI (qL w))) b c) :
  ∀ {kn},YO w.acts[i].env (vZ w.acts[i]) w.acts[i].outs (Z8 w.acts[i]) kn b->(∃kn',YO w.acts[i].env (vZ w.acts[i]) w.acts[i].outs (Z8 w.acts[i]) kn' c)/\∀r∈b.reads,r∈c.reads:=by
 induction h with
 | refl b=>exact fun hk=>⟨⟨_,hk⟩,fun _ h=>h⟩
 | @step b c k h1 h2 _ ih =>
  intro kn hk
  obtain⟨hkp,hkd⟩:=PM hw _ _ h2
  obtain⟨_,v2⟩:=hk.give k h1 hkp (fun _=>hkd)
  obtain⟨g1,g2⟩:=ih v2
  refine⟨g1,fun r hr=>g2 r ?_⟩
  obtain⟨_,s1⟩:=hk.s
  obtain⟨_,s2⟩:=v2.s
  rw[s2.reads,List.map_append,<-s1.reads]
  exact List.mem_append_left _ hr
theorem zl0 {i:Nat} (hi:i<w.acts.length):(jH (qL w) i).reads=(JI (qL w) i).reads:=by
 obtain⟨⟨b,hb⟩,_⟩:=v8 hw hi
 have hbx:JI (qL w) i=b:=by unfold JI;rw[hb];rfl
 rw[hbx]
 unfold jH
 cases h:jI (qL w) i with
 | none=>simp only[Option.getD_none,hbx]
 | some o =>
  rw[vR]at h
  unfold xF at h
  rw[hb]at h
  simp only at h
  by_cases ho:b.over=true
  ·rw[if_pos ho]at h
   cases h
   simp only[Option.getD_some,GP ho]
  ·rw[if_neg ho]at h
   split at h
   ·cases h
   split at h
   ·cases h
   split at h
   ·cases h;rfl
   ·cases h
theorem zmt {i:Nat} (hi:i<w.acts.length) {p:Txt} (ha:zeQ (qL w) i p) (hm:jK w.acts p=none):∃r∈(jH (qL w) i).reads,r.path=p:=by
 obtain⟨b,hr,ho,rfl⟩:=ha
 obtain⟨⟨c,hc⟩,kn,hk⟩:=v8 hw hi
 have hbx:JI (qL w) i=c:=by unfold JI;rw[hc];rfl
 have ha:kF (qL w) (jI (qL w)) b.asks=some (ZK w.files b.asks):=by
  unfold kF
  rw[show (qL w).who b.asks=none from hm]
  rfl
 obtain⟨⟨kn1,hk1⟩,_⟩:=cP hw hi hr hk
 obtain⟨hkp,hkd⟩:=PM hw _ _ ha
 obtain⟨_,v2⟩:=hk1.give _ ho hkp (fun _=>hkd)
 have hr2:=hr.snoc ho ha
 have hr3:kM (kF (qL w) (jI (qL w))) (yN (ZK w.files b.asks) b).2 c:=by
  rcases hr2.two (KV 600 hc)with h|h
  ·exact h
  ·rw[h.stop (VE 600 hc)];exact .refl _
 refine⟨QU (ZK w.files b.asks),?_,?_⟩
 ·rw[zl0 hw hi,hbx]
  refine(cP hw hi hr3 v2).2 _ ?_
  obtain⟨_,s2⟩:=v2.s
  rw[s2.reads];simp
 ·have:(ZK w.files b.asks).path=b.asks:=dQ _ _
  unfold QU
  split<;>exact this
theorem zmv {tool:Txt} (h:WkL (ZH w tool)) (hno:∀i,i<w.acts.length->∀r∈(jH (qL w) i).reads,r.path≠exP):YK (qL w) (qL (ZH w tool)) (fun i=>i) (fun i=>i<w.acts.length):=by
 refine⟨fun i hi=>?_,fun i p hi ha=>⟨?_,fun j hj=>(Q6 hj).1,fun _=>rfl⟩⟩
 ·rw[uK hi,uK (by simp[ZH];omega),zg6 hi]
 ·have hp:p≠exP:=fun e=>by
   subst e
   obtain⟨r,hr,hrp⟩:=zmt hw hi ha (zkr h)
   exact hno i hi r hr hrp
  show jK (ZH w tool).acts p=(jK w.acts p).map _
  rw[zhL hp]
  simp
end
end Go.Proofs.YtfkcpballfhddaaGreatDoor
end
section
set_option maxRecDepth 100000
namespace Go.Proofs.YtfkcpballfhddaaGreatDoor
open Go Go.Ab
open Classical
variable [Sel] [SelPow] [SelMax]
theorem WkC.more {w:qQ} (h:WkC w) (hn:w.acts.length<=8) {tool:Txt} (ht:tool.length<=300):WkC (ZH w tool):=by
 refine h.same rfl (fun a ha=>?_) (by simp[ZH];omega) h.p h.wn
 rcases List.mem_append.1 ha with ha|ha
 ·exact h.a a ha
 ·rw[List.mem_singleton.1 ha]
  exact⟨⟨by simp[exA];omega,by simp[exA],by simp[exA],by simp[exA],by simp[exA],by simp[exA],by simp[exA]⟩,by simp[exA,exP],by simp[exA]⟩
abbrev zjw:Cfg:=⟨fun _=>false,fun _=>false⟩
theorem CV (w:qQ) (tool:Txt) (hb:WkB w) (hc:ZE w=false->WkC w) (htl:tool.length<=4000000):PC Tryz.prog 5 [.av Q7 (j7 w),.av .str (.s tool)] (.av .bool (.b true)):=by
 have hfx:=uZ
 have hgr:=uR w hb
 have hew:=JW w
 obtain⟨W,hW⟩:∃W,W=j7 w:=⟨_,rfl⟩
 have hWE:W=.agg [.sl .no (w.files.map qS),.sl .no (w.acts.map zI),.sl .no (strs w.wants),.b w.keep]:=hW
 rw[<-hW]at hgr hew |-
 refine zow Tryz.func5 zjw fun imm0 w0=>?_
 simp (disch:=omega) [zz]
 refine qG hgr rfl rfl (by simp) (by simp[qM,TV.er,hew]) ?_
 by_cases hg:ZE w=true
 ·simp (disch:=omega) [zz,hg]
  refine zcv hfx ?_
  simp (disch:=omega) [zz,Tryz.f5]
 have hg':ZE w=false:=by simpa using hg
 replace hc:=hc hg'
 have hck:=WN w hc
 have hof:=zjr w hc
 rw[<-hW]at hck hof
 simp (disch:=omega) [zz,hg']
 refine qG hck rfl rfl (by simp) (by simp[qM,TV.er,hew]) ?_
 by_cases h0:QP w=0
 rotate_left
 ·simp (disch:=omega) [zz,h0]
  refine zcv hfx ?_
  simp (disch:=omega) [zz,Tryz.f5]
 by_cases ht:300<tool.length
 ·have ht':(300:Int)<tool.length:=by omega
  simp (disch:=omega) [zz,h0,ht']
  refine zcv hfx ?_
  simp (disch:=omega) [zz,Tryz.f5]
 have ht':¬(300:Int)<tool.length:=by omega
 have hw:=hc.ok h0
 have hn8:=P4 hg'
 have hXC:=hc.more hn8 (tool:=tool) (by omega)
 simp (disch:=omega) [zz,h0,ht',hWE]
 refine AT.loop' (α:=Nat) (fun k=>St.of [(1,.av .str (.s tool)),(2,.loc 2 []),(31,.av (.int .i64) (.i .i64 w.acts.length)),(32,.av (.int .i64) (.i .i64 k))] [(2,(Q7,W))] (fun _=>0) [])
  (fun k=>k<=w.acts.length/\∀i,i<k->∀r∈(jH (qL w) i).reads,r.path≠exP) (fun k=>w.acts.length-k) 0 ?_ ⟨by omega,fun i h=>by omega⟩ ?_
 ·apply Le.of<;>simp[zA,qF,qJ,hWE]<;>try omega
 rintro k ⟨hk,hno⟩ KL hN hE
 refine zrd zjw ?_
 by_cases hlt:k<w.acts.length
 ·have hlt':(k:Int)<w.acts.length:=by omega
  have hofk:=hof k
  rw[of_at h0 hlt]at hofk
  have hrl:=zio hw hlt
  have hno1:(∀r∈(jH (qL w) k).reads,r.path≠exP)->∀i,i<k+1->∀r∈(jH (qL w) i).reads,r.path≠exP:=fun h i hi=>by
   by_cases e:i=k
   ·subst e;exact h
   ·exact hno i (by omega)
  obtain⟨o,ho⟩:∃o,o=jH (qL w) k:=⟨_,rfl⟩
  rw[<-ho]at hofk hno1 hrl
  simp (disch:=omega) [zz,hlt']
  refine qG hofk rfl rfl (by simp) (by simp[qM,TV.er,hew]) ?_
  simp (disch:=omega) [zz,qU,zO]
  refine AT.loop' (α:=Nat) (fun j=>St.of [(1,.av .str (.s tool)),(2,.loc 2 []),(31,.av (.int .i64) (.i .i64 w.acts.length)),(32,.av (.int .i64) (.i .i64 k)),(44,.av (.slice 53) (.sl .no (o.reads.map zG))),(45,.av (.int .i64) (.i .i64 o.reads.length)),(46,.av (.int .i64) (.i .i64 j))] [(2,(Q7,W))] (fun _=>0) [])
   (fun j=>j<=o.reads.length/\∀i (h:i<o.reads.length),i<j->o.reads[i].path≠exP) (fun j=>o.reads.length-j) 0 ?_ ⟨by omega,fun i _ h=>by omega⟩ ?_
  ·apply Le.of<;>simp[zA,qF,qJ,hWE]<;>try omega
  rintro j ⟨hj,hnj⟩ KL2 hN2 hE2
  refine zrd zjw ?_
  by_cases hjl:j<o.reads.length
  ·have hjl':(j:Int)<o.reads.length:=by omega
   have hgo:=jY zG o.reads j hjl
   obtain⟨r,hr⟩:∃r,r=o.reads[j]:=⟨_,rfl⟩
   rw[<-hr]at hgo
   by_cases hp:r.path=exP
   ·have hp2:r.path=[111,117,116,47,101,120,116,114,97]:=hp
    simp (disch:=omega) [zz,hjl',hgo,zG,hp2]
    refine zcv hfx ?_
    simp (disch:=omega) [zz]
    refine hE2 _ _ (by simp) ?_
    refine hE _ _ (by simp) ?_
    simp (disch:=omega) [zz,Tryz.f5]
   ·have hp2:¬r.path=[111,117,116,47,101,120,116,114,97]:=hp
    simp (disch:=omega) [zz,hjl',hgo,zG,hp2]
    refine hN2 _ (j+1) ?_ ⟨by omega,fun i hi h=>?_⟩ (by omega)
    ·apply Le.of<;>simp[zA,qF,qJ,hWE]<;>try omega
    ·by_cases e:i=j
     ·subst e;rw[<-hr];exact hp
     ·exact hnj i hi (by omega)
  ·have hjl':¬(j:Int)<o.reads.length:=by omega
   simp (disch:=omega) [zz,hjl']
   refine hE2 _ _ (by simp) ?_
   clear hN2 hE2
   simp (disch:=omega) [zz]
   refine hN _ (k+1) ?_ ⟨by omega,hno1 fun r hr=>?_⟩ (by omega)
   ·apply Le.of<;>simp[zA,qF,qJ,hWE]<;>try omega
   ·obtain⟨i,hi,rfl⟩:=List.getElem_of_mem hr
    exact hnj i hi (by omega)
 have hkn:k=w.acts.length:=by omega
 subst hkn
 have hlt':¬(w.acts.length:Int)<w.acts.length:=by omega
 simp (disch:=omega) [zz,hlt']
 refine hE _ _ (by simp) ?_
 clear hN hE
 have hckX:=WN (ZH w tool) hXC
 have hofX:=zjr (ZH w tool) hXC
 have hXE:j7 (ZH w tool)=.agg [.sl .no (w.files.map qS),.sl .no (w.acts.map zI++[.agg [.agg [.s [],.s []],.s tool,.sl .no [],.sl .no [],.sl .no [.s [42,42]],.sl .no [.s [111,117,116,47,101,120,116,114,97]]]]),.sl .no (strs w.wants),.b w.keep]:=by
  simp[j7,ZH,qH,jC,zI,exA,exP,j6,strs]
 rw[hXE]at hckX hofX
 have hse:AV.ers (w.acts.map zI)=w.acts.map zI:=YV _
 have hfe:AV.ers (w.files.map qS)=w.files.map qS:=by simp[AV.ers_eq,Function.comp_def]
 have hwe:AV.ers (strs w.wants)=strs w.wants:=by simp[strs,AV.ers_eq,Function.comp_def,AV.er]
 have hsa:∀a b,AV.ers (a++b)=AV.ers a++AV.ers b:=fun a b=>by simp[AV.ers_eq]
 simp (disch:=omega) [zz,hWE]
 refine CF (o:=none) (by simp;omega) (by simp;omega) (by simp) (by simp) ?_
 intro ver1
 simp (disch:=omega) [zz]
 refine CF (o:=some 60) (by simp;omega) (by simp;omega) (by simp) (by simp) ?_
 intro ver2
 simp (disch:=omega) [zz]
 refine qG hckX rfl rfl (by simp) (by simp[qM,TV.er,AV.er,AV.ers,hse,hfe,hwe,hsa]) ?_
 by_cases hX0:QP (ZH w tool)=0
 rotate_left
 ·simp (disch:=omega) [zz,hX0]
  refine zcv hfx ?_
  simp (disch:=omega) [zz,Tryz.f5]
 have hsim:=zmv hw (d8 hX0) hno
 obtain⟨X,hX⟩:∃X,X=AV.agg [.sl .no (w.files.map qS),.sl .no (w.acts.map zI++[.agg [.agg [.s [],.s []],.s tool,.sl .full [],.sl .full [],.sl .full [.s [42,42]],.sl .full [.s [111,117,116,47,101,120,116,114,97]]]]),.sl .no (strs w.wants),.b w.keep]:=⟨_,rfl⟩
 obtain⟨Y,hY⟩:∃Y,Y=j7 (ZH w tool):=⟨_,rfl⟩
 have hXe:X.er=Y:=by
  rw[hX,hY,hXE]
  simp[AV.er,AV.ers,hse,hfe,hwe,hsa]
 rw[<-hXE,<-hY]at hofX
 simp (disch:=omega) [zz,hX0,hWE]
 refine AT.loop' (α:=Nat) (fun k=>St.of [(2,.loc 2 []),(10,.loc 10 []),(74,.av (.int .i64) (.i .i64 w.acts.length)),(75,.av (.int .i64) (.i .i64 k))] [(2,(Q7,W)),(10,(Q7,X))] ver2 [])
  (fun k=>k<=w.acts.length) (fun k=>w.acts.length-k) 0 ?_ (by omega) ?_
 ·apply Le.of<;>simp[zA,qF,qJ,hWE,hX,znh]<;>try omega
  simp only[KJ]
  exact⟨QY _,⟨.inr (.inl rfl),KZ _⟩,QY _,QY _,trivial⟩
 clear hX
 rintro k hk KL hN hE
 refine zrd zjw ?_
 by_cases hlt:k<w.acts.length
 ·have hlt':(k:Int)<w.acts.length:=by omega
  have hofk:=hof k
  rw[of_at h0 hlt]at hofk
  have hofx:=hofX k
  rw[of_at hX0 (by simp[ZH];omega),hsim.fin hlt]at hofx
  have hsm:=d5 hw hlt
  obtain⟨o,ho⟩:∃o,o=jH (qL w) k:=⟨_,rfl⟩
  rw[<-ho]at hofk hofx hsm
  have hoe:=wM o
  obtain⟨E,hEo⟩:∃E,E=qU o:=⟨_,rfl⟩
  rw[<-hEo]at hofk hofx hsm hoe
  simp (disch:=omega) [zz,hlt']
  refine qG hofk rfl rfl (by simp) (by simp[qM,TV.er,AV.er,hew]) ?_
  simp (disch:=omega) [zz]
  refine qG hofx rfl rfl (by simp) (by simp[qM,TV.er,AV.er,hXe]) ?_
  simp (disch:=omega) [zz]
  refine qG hsm rfl rfl (by simp) (by simp[qM,TV.er,AV.er,AV.ers,hoe]) ?_
  simp (disch:=omega) [zz]
  refine hN _ (k+1) ?_ (by omega) (by omega)
  apply Le.of<;>simp[zA,qF,qJ]<;>try omega
 ·have hlt':¬(k:Int)<w.acts.length:=by omega
  simp (disch:=omega) [zz,hlt']
  refine hE _ _ (by simp) ?_
  clear hN hE
  simp (disch:=omega) [zz]
  refine zcv hfx ?_
  simp (disch:=omega) [zz,Tryz.f5]
end Go.Proofs.YtfkcpballfhddaaGreatDoor
end
