/- The law BoxEnds: the program. No condition beyond each theorem's own. -/
import Derived.Test.YthgocigdldgpgaaGreatDoorBE0
import Derived.Test.YthgocigdldgpgaaGreatDoorB0
import Derived.Test.YthgocigdldgpgaaGreatDoorAbXToY
set_option linter.unusedSimpArgs false
set_option linter.unusedVariables false
set_option linter.unusedSectionVars false
section
set_option maxRecDepth 100000
namespace Go.Proofs.YthgocigdldgpgaaGreatDoor
open Go Go.Ab
open Classical
variable [Sel] [SelPow] [SelMax]
theorem znn {t:Txt} {cs:List CmdV} (hcs:j7 t=.ok cs) {env:List (Txt × Txt)} (h1:env.length≤1000000000) (h2:∀x∈env,x.2.length≤1000000) {outs:List Txt} {may:Txt→Bool} {known:List KnV} (hd:∀k∈known,k.data.length≤65536) :
  ∃b',goL known 600 (ZR env outs may cs)=some b'∧Z4 env cs outs may [] (ZR env outs may cs)∧(b'.over=true∨zQ known b'.asks=none):=by
 obtain⟨b',kn',wr',g1,g2,g3,g4⟩:=zfT (env:=env) (outs:=outs) (may:=may) (y8 hcs) hd
 exact⟨b',g1,zbj hcs h1 h2 outs may,g4⟩
theorem Z4.outl {env:List (Txt × Txt)} {cs:List CmdV} {outs:List Txt} {may:Txt→Bool} {kn:List KnV} {b:BoxV} (h:Z4 env cs outs may kn b) (ho:outs.length≤1000000):(yD b).1.outs.length≤1000000000∧(yD b).1.reads.length≤1000000000:=by
 have h1:=h.rl
 have h2:=h.wl ho
 unfold yD
 split
 ·simp
 split
 ·refine⟨?_,by simp only;omega⟩
  simp only[ZH,List.length_map,ZO];omega
 ·exact⟨by simp,by simp only;omega⟩
set_option maxHeartbeats 32000000 in
theorem ze6 (a:xW) (known:List KnV) (ha:vA a≤1000000000) (hk:knW known≤1000000000) :
  PC Tryz.prog 6 [.av UI (kT a),.av (.slice 55) (zL known)] (.av .bool (.b true)):=by
 have hkns:(zL known).er=zL known:=YO known
 have hae:=YB a
 have hgr:=d8 a ha
 have hmn:=P1 known hk
 obtain⟨A,hA⟩:∃A,A=kT a:=⟨_,rfl⟩
 have hA5:A=.agg [.agg [.s a.pkg,.s a.name],.s a.tool,zS a.env,.sl .no (strs a.ins),.sl .no (strs a.asks),.sl .no (strs a.outs)]:=hA
 rw[←hA]at hgr hae ⊢
 refine PC.of <| q7.of_vc laid mixed Tryz.func6 rfl cf0 (by kernel_rfl) (by simp[Tryz.ntmps6]) fun imm0 w0=>?_
 (simp (maxSteps:=2000000) (disch:=first|omega|assumption) [zz,-List.reduceReplicate])
 refine qL VZ rfl rfl (by simp) (by simp[qS,TV.er,AV.er]) ?_
 (simp (maxSteps:=2000000) (disch:=first|omega|assumption) [zz,-List.reduceReplicate])
 refine qL hgr rfl rfl (by simp) (by simp[qS,TV.er,hae]) ?_
 by_cases hg:2000<vA a
 ·(simp (maxSteps:=2000000) (disch:=first|omega|assumption) [zz,-List.reduceReplicate,hg,Tryz.f6])
 (simp (maxSteps:=2000000) (disch:=first|omega|assumption) [zz,-List.reduceReplicate,hg])
 refine qL hmn rfl rfl (by simp) (by simp[qS,TV.er,hkns]) ?_
 by_cases hm:5000<knW known
 ·(simp (maxSteps:=2000000) (disch:=first|omega|assumption) [zz,-List.reduceReplicate,hm,Tryz.f6])
 (simp (maxSteps:=2000000) (disch:=first|omega|assumption) [zz,-List.reduceReplicate,hm])
 have hab:=zbN (a:=a) (by omega)
 obtain⟨hkd,hkl⟩:=zgi (l:=known) (by omega)
 have hnew:=DZ a hab
 unfold zes at hnew
 rw[←hA]at hnew
 cases hcv:j7 a.tool with
 | error en =>
  obtain⟨e,n⟩:=en
  rw[hcv]at hnew
  have hne:¬e=0:=by rcases Z8 hcv with h|h<;>omega
  refine jP (R:=fun r H'=>r=.tup [(.ptr,.nilptr),(.int .i64,.i .i64 e)]∧H'=[]) rfl (by simp[qQ]) (by simp) ?_ ?_
  ·simpa[TV.er,hae,q8.er_nil]using hnew
  rintro r H' ⟨rfl,rfl⟩
  (simp (maxSteps:=2000000) (disch:=first|omega|assumption) [zz,-List.reduceReplicate,hne,Tryz.f6])
 | ok cs =>
  rw[hcv]at hnew
  refine jP (R:=fun r H'=>∃B,r=.tup [(.ptr,.ptr B KD []),(.int .i64,.i .i64 0)]∧jJ B (ZR a.env a.outs (jI a) cs) H') rfl (by simp[qQ]) (by simp) ?_ ?_
  ·simpa[TV.er,hae,q8.er_nil]using hnew
  rintro r H ⟨B,rfl,hH⟩
  obtain⟨b',hgo,hbk,hstop⟩:=znn hcv (env:=a.env) (by have:=hab.be;omega) hab.bev (outs:=a.outs) (may:=jI a) hkd
  have hlg:=ZZ B hH hbk hab.bo known hkd (by omega) hgo
  have hHe:=hH.er
  (simp (maxSteps:=2000000) (disch:=first|omega|assumption) [zz,-List.reduceReplicate])
  refine qE (R:=fun y H'=>y=yS b'∧jJ B b' H'∧∃kn',Z4 a.env cs a.outs (jI a) kn' b') H [] (by simp) rfl (by simp[qQ]) (by simp) ?_ ?_
  ·rw[hHe]
   simpa[TV.er,AV.er,hkns]using hlg
  rintro y H1 ⟨rfl,hH1,kn',hk1⟩ _
  have hHe1:=hH1.er
  refine⟨H1,by simpa using HSub.refl _,?_⟩
  by_cases hov:b'.over=true
  rotate_left
  ·have hov':b'.over=false:=by simpa using hov
   have hw:=KN hov'
   (simp (maxSteps:=2000000) (disch:=first|omega|assumption) [zz,-List.reduceReplicate,yS,hov',hw,zI,qF,zU,Tryz.f6])
  have hao:=hab.bo
  (simp (maxSteps:=2000000) (disch:=first|omega|assumption) [zz,-List.reduceReplicate,yS,hov,hA5])
  intro M hM
  have hoA:∀(k:Nat) (h:k<a.outs.length),(strs a.outs)[k]?=some (.s a.outs[k]):=fun k h=>yH a.outs k h
  refine AT.loop' (α:=Nat) (fun k=>St.of [(2,.loc 2 []),(9,.loc 9 []),(11,.av (.map 9 4) (.map (some M))),(58,.av (.slice 9) (.sl .no (strs a.outs))),(59,.av (.int .i64) (.i .i64 a.outs.length)),(60,.av (.int .i64) (.i .i64 k))]
    [(2,(UI,A)),(9,(qD Tryz.prog 41,zI (yD b').1))] (fun _=>0) ((M,yF (ddU (a.outs.take k)))::H1))
   (fun k=>k≤a.outs.length) (fun k=>a.outs.length-k) 0 ?_ ?_ ?_
  ·refine Le.of ?_ ?_ ?_ ?_ ?_<;>simp[qU,qG,yF,ddU,QY,qX,hA5]<;>try omega
  ·omega
  rintro k hk2 KL hN hE
  refine qM (cf:=cf0) laid mixed _ _ _ (by kernel_rfl) ?_
  by_cases hlt:k<a.outs.length
  ·have hlt':(k:Int)<a.outs.length:=by omega
   have hg:=hoA k hlt
   have hst:=zif a.outs k hlt
   have hmp:=zeG a.outs[k] (ddU (a.outs.take k))
   rw[←hst]at hmp
   (simp (maxSteps:=2000000) (disch:=first|omega|assumption) [zz,-List.reduceReplicate,hlt',hg,qX,yF,hmp])
   refine hN _ (k+1) ?_ (by omega) (by omega)
   refine Le.of ?_ ?_ ?_ ?_ ?_<;>simp[qU,qG,qX,yF]<;>try omega
  have hkn:k=a.outs.length:=by omega
  subst hkn
  have hlt':¬(a.outs.length:Int)<a.outs.length:=by omega
  (simp (maxSteps:=2000000) (disch:=first|omega|assumption) [zz,-List.reduceReplicate,hlt',qX])
  refine hE _ _ (by simp) ?_
  clear hN hE
  have htk:a.outs.take a.outs.length=a.outs:=List.take_length
  have hdl:=zmr a.outs
  obtain⟨kd,wy,ol,ho1,hri,hme,hend⟩:∃kd wy ol,(yD b').1=⟨kd,wy,ol,b'.reads⟩∧zea (ol.map (·.path))∧(∀p,p∈ol.map (·.path)→p∈a.outs)∧((kd=1∧wy=0∧ol.length=(ddU a.outs).length)∨(kd=2∧wy≠0∧ol=[])):=by
   rcases hk1.ends hov with⟨hy,ho1,hri,hme,hln⟩|⟨hy,ho1⟩
   ·exact⟨1,0,_,ho1,hri,fun p=>(hme p).1,.inl ⟨rfl,rfl,hln⟩⟩
   ·exact⟨2,_,[],ho1,List.Pairwise.nil,by simp,.inr ⟨rfl,hy,rfl⟩⟩
  have hol:ol.length≤1000000:=by
   rcases hend with⟨_,_,h⟩|⟨_,_,h⟩
   ·omega
   ·rw[h];simp
  rw[ho1]
  have hfg:=fun(k:Nat) (h:k<ol.length)=>KB jZ ol k h
  (simp (maxSteps:=2000000) (disch:=first|omega|assumption) [zz,-List.reduceReplicate,zI,zU,htk])
  refine AT.loop' (α:=Nat) (fun k=>St.of [(9,.loc 9 []),(11,.av (.map 9 4) (.map (some M))),(68,.av (.slice 66) (.sl .no (ol.map jZ))),(69,.av (.int .i64) (.i .i64 ol.length)),(70,.av (.int .i64) (.i .i64 k))]
    [(9,(qD Tryz.prog 41,zI ⟨kd,wy,ol,b'.reads⟩))] (fun _=>0) ((M,yF (ddU a.outs))::H1))
   (fun k=>k≤ol.length) (fun k=>ol.length-k) 0 ?_ ?_ ?_
  ·refine Le.of ?_ ?_ ?_ ?_ ?_<;>simp[qU,qG,zI,zU,htk]<;>try omega
  ·omega
  rintro k hk2 KL hN hE
  refine qM (cf:=cf0) laid mixed _ _ _ (by kernel_rfl) ?_
  by_cases hlt:k<ol.length
  ·have hlt':(k:Int)<ol.length:=by omega
   have hg:=hfg k hlt
   have hmf:=pS ol[k].path (ddU a.outs)
   have hin:ol[k].path∈ddU a.outs:=P0.2 (hme _ (List.mem_map.2 ⟨ol[k],List.getElem_mem hlt,rfl⟩))
   rw[if_pos hin]at hmf
   cases k with
   | zero =>
    have hlt':(0:Int)<ol.length:=by omega
    (simp (maxSteps:=2000000) (disch:=first|omega|assumption) [zz,-List.reduceReplicate,hlt',hlt,hg,hmf,jZ,yF,zI,zU])
    (repeat with_reducible refine om ?_)
    refine hN _ 1 ?_ (by omega) (by omega)
    refine Le.of ?_ ?_ ?_ ?_ ?_<;>simp[qU,qG,zI,zU,yF]<;>try omega
   | succ k =>
    have hg2:=hfg k (by omega)
    have hlt':(k:Int)+1<ol.length:=by omega
    have hge:(0:Int)<(k:Int)+1:=by omega
    have hr:=hri.at_ k (by simpa using hlt)
    simp only[List.getElem_map]at hr
    (simp (maxSteps:=2000000) (disch:=first|omega|assumption) [zz,-List.reduceReplicate,hlt',hlt,hge,hg,hg2,hr,hmf,jZ,yF,zI,zU])
    refine⟨by omega,by omega,?_⟩
    refine hN _ (k+2) ?_ (by omega) (by omega)
    refine Le.of ?_ ?_ ?_ ?_ ?_<;>simp[qU,qG,zI,zU,yF]<;>try omega
  ·have hkn:k=ol.length:=by omega
   subst hkn
   have hlt':¬(ol.length:Int)<ol.length:=by omega
   (simp (maxSteps:=2000000) (disch:=first|omega|assumption) [zz,-List.reduceReplicate,hlt'])
   refine hE _ _ (by simp) ?_
   rcases hend with⟨rfl,rfl,hln⟩|⟨rfl,hy,rfl⟩
   ·(simp (maxSteps:=2000000) (disch:=first|omega|assumption) [zz,-List.reduceReplicate,zI,zU,yF,zhE,hln,Tryz.f6])
   ·(simp (maxSteps:=2000000) (disch:=first|omega|assumption) [zz,-List.reduceReplicate,zI,zU,yF,hy,Tryz.f6])
end Go.Proofs.YthgocigdldgpgaaGreatDoor
end
section
set_option maxRecDepth 100000
namespace Go.Proofs.YthgocigdldgpgaaGreatDoor
open Go Go.Ab
open Classical
variable [Sel]
theorem DU {α:Type} {f:α→AV} {q:AV→Prop} {r:α→Prop} {xs:List AV} (h:∀y∈xs,q y) (hd:∀y,q y→∃a,y=f a∧r a):∃l:List α,xs=l.map f∧∀a∈l,r a:=by
 induction xs with
 | nil=>exact⟨[],rfl,by simp⟩
 | cons y ys ih =>
  obtain⟨a,ha,hr⟩:=hd y (h y (by simp))
  obtain⟨l,hl,hl2⟩:=ih fun z hz=>h z (by simp[hz])
  exact⟨a::l,by simp[ha,hl],by simpa using⟨hr,hl2⟩⟩
end Go.Proofs.YthgocigdldgpgaaGreatDoor
end
