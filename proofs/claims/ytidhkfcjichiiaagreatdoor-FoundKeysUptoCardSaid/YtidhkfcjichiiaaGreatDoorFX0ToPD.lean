/- The chapter's example of an action by what is known. No condition beyond each theorem's own. -/
import Derived.Test.YtidhkfcjichiiaaGreatDoorFW1ToFW2
import Derived.Test.YtidhkfcjichiiaaGreatDoorBL1ToBR1
import Derived.Test.YtidhkfcjichiiaaGreatDoorFK4ToFW0
import Derived.Test.YtidhkfcjichiiaaGreatDoorB0
import Derived.Test.YtidhkfcjichiiaaGreatDoorAbXToY
set_option linter.unusedSimpArgs false
set_option linter.unusedVariables false
set_option linter.unusedSectionVars false
section
set_option maxRecDepth 100000
namespace Go.Proofs.YtidhkfcjichiiaaGreatDoor
open Go Go.Ab
open Classical
variable [Sel] [SelPow] [SelMax]
@[simp] theorem zx4:qZ Tryz.prog 34=true:=by kernel_rfl
@[simp] theorem zxf:z8 Tryz.prog (.func 34)=false:=q9 zx4
@[simp] theorem zwW:qZ Tryz.prog 32=true:=by kernel_rfl
@[simp] theorem zxv:z8 Tryz.prog (.func 32)=false:=q9 zwW
@[simp] theorem zAC:qZ Tryz.prog 39=true:=by kernel_rfl
@[simp] theorem zBk:z8 Tryz.prog (.func 39)=false:=q9 zAC
@[simp] theorem znM:qZ Tryz.prog 85=true:=by kernel_rfl
@[simp] theorem zrm:z8 Tryz.prog (.func 85)=false:=q9 znM
def fxTool:Txt:=[114,101,97,100,32,97,10,119,114,105,116,101,32,111,117,116,47,111]
def fxAct:xW:=⟨[],[],fxTool,[],[[97]],[],[QG]⟩
theorem zvr:z7 fxTool=z7 alTool:=by rw[PU];decide
theorem zx9:∃cs,j7 fxTool=.ok cs:=by
 obtain⟨cs,h⟩:=zpF
 have h1:¬(65536<fxTool.length∨400<(z7 fxTool).length):=by rw[zvr,PU];decide
 have h2:¬(65536<alTool.length∨400<(z7 alTool).length):=by rw[PU];decide
 unfold j7 at h ⊢
 rw[if_neg h1,zvr]
 rw[if_neg h2]at h
 exact⟨cs,h⟩
theorem zwZ:jI fxAct [97]=true:=by
 simp[jI,pJ,fxAct,QG]
theorem zwF:zky fxAct:=by
 refine⟨by decide,by decide,by simp[fxAct],by decide,by decide,?_,by decide⟩
 intro x hx
 simp[fxAct]at hx
theorem zxj:zvY fxAct []=(zvN [97],zvh,0):=by
 obtain⟨cs,hcs⟩:=zx9
 have h0:=zbj hcs (env:=[]) (by simp) (by simp) [QG] (jI fxAct)
 obtain⟨b,hb⟩:∃b,b=ZR [] [QG] (jI fxAct) cs:=⟨_,rfl⟩
 rw[←hb]at h0
 obtain⟨_,i,hi⟩:=XU hcs
 have hfl:zh5 [] cs (z7 fxTool):=⟨⟨i,hi⟩⟩
 obtain⟨f1,f2⟩:=zkA
 rw[←zvr]at f1 f2
 obtain⟨wr,hs⟩:=h0.s
 have hw:b.asks=[97]∧b.over=false:=by
  cases (hs.far hfl).1 with
  | waits h1 h2 h3 h4 h5 h6=>rw[f1]at h3;exact⟨h3,h4⟩
  | read h1 h2=>rw[f1]at h2;rw[zwZ]at h2;cases h2
  | ended h1=>rw[f1]at h1;cases h1
  | short h1=>rw[f1]at h1;cases h1
  | failed h1=>rw[f1]at h1;cases h1
  | wrote wr d h1=>rw[f2]at h1;simp at h1
 have ho:zuJ (zQ []) fxAct cs=b:=by
  have hg:goF (zQ []) 600 b=some b:=by
   rw[goF,if_neg (by rw[hw.2];decide)]
   rfl
  unfold zuJ
  rw[show ZR fxAct.env fxAct.outs (jI fxAct) cs=b from hb.symm,hg]
  rfl
 unfold zvY
 rw[show fxAct.tool=fxTool from rfl,hcs]
 simp only[ho]
 rw[KN hw.2]
 simp[zvg,hw,zvh]
set_option maxHeartbeats 16000000 in
theorem zvO:PC Tryz.prog 34 [] (.av .bool (.b true)):=by
 have ht:=zwD fxAct zwF [] (by simp) (by simp)
 rw[zxj]at ht
 have hte:fxTool=[114,101,97,100,32,97,10,119,114,105,116,101,32,111,117,116,47,111]:=rfl
 have hae:kT fxAct=.agg [.agg [.s [],.s []],.s fxTool,.sl .no [],.sl .no [.s [97]],.sl .no [],.sl .no [.s [111,117,116,47,111]]]:=rfl
 have hke:zL []=.sl .no []:=rfl
 rw[hae,hte,hke]at ht
 unfold zvQ at ht
 refine PC.of <| q7.of_vc laid mixed Tryz.func34 rfl cf0 (by kernel_rfl) (by simp[Tryz.ntmps34]) fun imm0 w0=>?_
 (simp (maxSteps:=2000000) (disch:=first|omega|assumption) [zz,-List.reduceReplicate])
 refine qL ht rfl rfl (by simp) (by simp[qS,TV.er,AV.er,AV.ers]) ?_
 (simp (maxSteps:=2000000) (disch:=first|omega|assumption) [zz,-List.reduceReplicate,zvN,zvh,zI,Tryz.f34])
def flW:List U1→Nat
 | []=>0
 | x::l=>x.path.length+x.data.length+1+flW l
theorem zvE:∀a b:List U1,flW (a++b)=flW a+flW b
 | [],b=>by simp[flW]
 | x::a,b=>by simp only[List.cons_append,flW,zvE a b];omega
theorem zwt (l:List U1) (k:Nat):flW (l.take k)≤flW l:=by
 conv=>rhs;rw[←List.take_append_drop k l,zvE]
 omega
theorem zvI:∀l:List U1,l.length≤flW l
 | []=>by simp[flW]
 | x::l=>by have:=zvI l;simp only[List.length_cons,flW];omega
theorem zw5 {l:List U1} {x:U1} (h:x∈l):x.path.length+x.data.length+1≤flW l:=by
 induction l with
 | nil=>cases h
 | cons y r ih =>
  simp only[flW]
  rcases List.mem_cons.1 h with rfl|h
  ·omega
  ·have:=ih h;omega
theorem zwo (l:List U1) (k:Nat) (h:k<l.length):flW (l.take (k+1))=flW (l.take k)+(l[k].path.length+l[k].data.length+1):=by
 rw[List.take_succ_eq_append_getElem h,zvE];simp only[flW];try omega
theorem zvj (l:List U1) (hl:flW l≤1000000000):PC Tryz.prog 32 [.av (.slice 63) (zU l)] (.av .bool (.b (decide (3000<flW l)))):=by
 have hlen:=zvI l
 refine PC.of <| q7.of_vc laid mixed Tryz.func32 rfl cf0 (by kernel_rfl) (by simp[Tryz.ntmps32]) fun imm0 w0=>?_
 (simp (maxSteps:=2000000) (disch:=first|omega|assumption) [zz,-List.reduceReplicate,zU])
 refine AT.loop' (α:=Nat) (fun k=>St.of [(0,.av (.slice 63) (zU l)),(6,.av (.int .i64) (.i .i64 l.length)),(7,.av (.int .i64) (.i .i64 k)),(3,.av (.int .i64) (.i .i64 (flW (l.take k))))] [] (fun _=>0) [])
  (fun k=>k≤l.length) (fun k=>l.length-k) 0 ?_ ?_ ?_
 ·refine Le.of ?_ ?_ ?_ ?_ ?_<;>simp[qU,qG,zU,flW]<;>try omega
 ·omega
 rintro k hk KL hN hE
 refine qM (cf:=cf0) laid mixed _ _ _ (by kernel_rfl) ?_
 by_cases hlt:k<l.length
 ·have hlt':(k:Int)<l.length:=by omega
  have hg:=KB jZ l k hlt
  have hs:=zwo l k hlt
  have ht:=zwt l (k+1)
  obtain⟨m,hm⟩:∃m,m=flW (l.take k):=⟨_,rfl⟩
  rw[←hm]at hs ⊢
  have hs':(flW (l.take (k+1)):Int)=m+l[k].path.length+l[k].data.length+1:=by omega
  (simp (maxSteps:=2000000) (disch:=first|omega|assumption) [zz,-List.reduceReplicate,hlt',hg,jZ,zU])
  (repeat with_reducible refine om ?_)
  refine hN _ (k+1) ?_ (by omega) (by omega)
  refine Le.of ?_ ?_ ?_ ?_ ?_<;>simp[qU,qG,zU,hs']<;>try omega
 ·have hkn:k=l.length:=by omega
  subst hkn
  have hlt':¬(l.length:Int)<l.length:=by omega
  (simp (maxSteps:=2000000) (disch:=first|omega|assumption) [zz,-List.reduceReplicate,hlt',zU])
  refine hE _ _ (by simp) ?_
  by_cases h5:3000<flW l
  ·have h5':(3000:Int)<flW l:=by omega
   (simp (maxSteps:=2000000) (disch:=first|omega|assumption) [zz,-List.reduceReplicate,h5,h5',Tryz.f32])
  ·have h5':¬(3000:Int)<flW l:=by omega
   (simp (maxSteps:=2000000) (disch:=first|omega|assumption) [zz,-List.reduceReplicate,h5,h5',Tryz.f32])
theorem zws {l:List U1} (h:flW l≤3000):zuK l=false∧l.length≤3000:=by
 have h1:=zvI l
 refine⟨?_,by omega⟩
 unfold zuK
 rw[List.any_eq_false]
 intro x hx
 have:=zw5 hx
 simp
 omega
@[simp] theorem zpt:qZ Tryz.prog 6=true:=by kernel_rfl
@[simp] theorem zsO:z8 Tryz.prog (.func 6)=false:=q9 zpt
set_option maxHeartbeats 32000000 in
theorem zzf (a b:xW) (fs:List U1) (ha:vA a≤1000000000) (hb:vA b≤1000000000) (hx:flW fs≤1000000000) :
  PC Tryz.prog 6 [.av UI (kT a),.av UI (kT b),.av (.slice 63) (zU fs)] (.av .bool (.b true)):=by
 have hex:=zdW fs
 have hae:=YB a
 have hbe:=YB b
 have hga:=d8 a ha
 have hgb:=d8 b hb
 have hgx:=zvj fs hx
 have hfx:=zvO
 have hsm:=zzH a b
 have hala:=fun hab=>zvG a hab
 have halb:=fun hab=>zvG b hab
 obtain⟨A,hA⟩:∃A,A=kT a:=⟨_,rfl⟩
 obtain⟨B,hB⟩:∃A,A=kT b:=⟨_,rfl⟩
 rw[←hA]at hga hae hala hsm ⊢
 rw[←hB]at hgb hbe halb hsm ⊢
 refine PC.of <| q7.of_vc laid mixed Tryz.func6 rfl cf0 (by kernel_rfl) (by simp[Tryz.ntmps6]) fun imm0 w0=>?_
 (simp (maxSteps:=2000000) (disch:=first|omega|assumption) [zz,-List.reduceReplicate])
 refine qL hga rfl rfl (by simp) (by simp[qS,TV.er,hae]) ?_
 by_cases g1:2000<vA a
 ·(simp (maxSteps:=2000000) (disch:=first|omega|assumption) [zz,-List.reduceReplicate,g1])
  refine qL hfx rfl rfl (by simp) (by simp[qS,TV.er,AV.er]) ?_
  (simp (maxSteps:=2000000) (disch:=first|omega|assumption) [zz,-List.reduceReplicate,Tryz.f6])
 (simp (maxSteps:=2000000) (disch:=first|omega|assumption) [zz,-List.reduceReplicate,g1])
 refine qL hgb rfl rfl (by simp) (by simp[qS,TV.er,hbe]) ?_
 by_cases g2:2000<vA b
 ·(simp (maxSteps:=2000000) (disch:=first|omega|assumption) [zz,-List.reduceReplicate,g2])
  refine qL hfx rfl rfl (by simp) (by simp[qS,TV.er,AV.er]) ?_
  (simp (maxSteps:=2000000) (disch:=first|omega|assumption) [zz,-List.reduceReplicate,Tryz.f6])
 (simp (maxSteps:=2000000) (disch:=first|omega|assumption) [zz,-List.reduceReplicate,g2])
 refine qL hgx rfl rfl (by simp) (by simp[qS,TV.er,hex]) ?_
 by_cases g3:3000<flW fs
 ·(simp (maxSteps:=2000000) (disch:=first|omega|assumption) [zz,-List.reduceReplicate,g3])
  refine qL hfx rfl rfl (by simp) (by simp[qS,TV.er,AV.er]) ?_
  (simp (maxSteps:=2000000) (disch:=first|omega|assumption) [zz,-List.reduceReplicate,Tryz.f6])
 (simp (maxSteps:=2000000) (disch:=first|omega|assumption) [zz,-List.reduceReplicate,g3])
 refine qL (hsm (by omega) (by omega)) rfl rfl (by simp) (by simp[qS,TV.er,hae,hbe]) ?_
 by_cases g4:zz5 a=zz5 b
 rotate_left
 ·(simp (maxSteps:=2000000) (disch:=first|omega|assumption) [zz,-List.reduceReplicate,g4])
  refine qL hfx rfl rfl (by simp) (by simp[qS,TV.er,AV.er]) ?_
  (simp (maxSteps:=2000000) (disch:=first|omega|assumption) [zz,-List.reduceReplicate,Tryz.f6])
 (simp (maxSteps:=2000000) (disch:=first|omega|assumption) [zz,-List.reduceReplicate,g4])
 have hab:=zbN (a:=a) (by omega)
 have hbb:=zbN (a:=b) (by omega)
 obtain⟨hl,hn⟩:=zws (l:=fs) (by omega)
 have hax:=hala hab fs (by omega)
 have hbx:=halb hbb fs (by omega)
 rw[zzB hab hbb g4 fs]at hbx
 obtain⟨bo,br⟩:=zvH hab fs
 obtain⟨X,hX⟩:∃X,X=zuI a fs:=⟨_,rfl⟩
 rw[←hX]at hax hbx bo br
 obtain⟨o,e⟩:=X
 simp only at hax hbx bo br
 have hoe:=KO o
 have hss:WJ o o=true:=u5.2 rfl
 have hso:=VG o o bo br bo br
 rw[hss]at hso
 refine qL hax rfl rfl (by simp) (by simp[qS,TV.er,AV.er,hae,hex]) ?_
 (simp (maxSteps:=2000000) (disch:=first|omega|assumption) [zz,-List.reduceReplicate])
 refine qL hbx rfl rfl (by simp) (by simp[qS,TV.er,AV.er,hbe,hex]) ?_
 (simp (maxSteps:=2000000) (disch:=first|omega|assumption) [zz,-List.reduceReplicate])
 refine qL hso rfl rfl (by simp) (by simp[qS,TV.er,hoe]) ?_
 (simp (maxSteps:=2000000) (disch:=first|omega|assumption) [zz,-List.reduceReplicate])
 refine qL hfx rfl rfl (by simp) (by simp[qS,TV.er,AV.er]) ?_
 (simp (maxSteps:=2000000) (disch:=first|omega|assumption) [zz,-List.reduceReplicate,Tryz.f6])
end Go.Proofs.YtidhkfcjichiiaaGreatDoor
end
section
set_option maxRecDepth 100000
namespace Go.Proofs.YtidhkfcjichiiaaGreatDoor
open Go Go.Ab
open Classical
variable [Sel]
theorem DU {α:Type} {f:α→AV} {q:AV→Prop} {r:α→Prop} {xs:List AV} (h:∀y∈xs,q y) (hd:∀y,q y→∃a,y=f a∧r a):∃l:List α,xs=l.map f∧∀a∈l,r a:=by
 induction xs with
 | nil=>exact⟨[],rfl,by simp⟩
 | cons y ys ih =>
  obtain⟨a,ha,hr⟩:=hd y (h y (by simp))
  obtain⟨l,hl,hl2⟩:=ih fun z hz=>h z (by simp[hz])
  exact⟨a::l,by simp[ha,hl],by simpa using⟨hr,hl2⟩⟩
end Go.Proofs.YtidhkfcjichiiaaGreatDoor
end
