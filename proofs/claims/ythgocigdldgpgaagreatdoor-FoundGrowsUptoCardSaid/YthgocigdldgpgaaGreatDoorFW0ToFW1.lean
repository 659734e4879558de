/- Files that are asked of a path: closures. No condition beyond each theorem's own. -/
import Derived.Test.YthgocigdldgpgaaGreatDoorBE1ToFP1
set_option linter.unusedSimpArgs false
set_option linter.unusedVariables false
set_option linter.unusedSectionVars false
section
set_option maxRecDepth 100000
namespace Go.Proofs.YthgocigdldgpgaaGreatDoor
open Go Go.Ab
open Classical
variable [Sel] [SelPow] [SelMax]
@[simp] theorem zwW:qZ Tryz.prog 32=true:=by kernel_rfl
@[simp] theorem zxv:z8 Tryz.prog (.func 32)=false:=q9 zwW
@[simp] theorem zwY:qZ Tryz.prog 68=true:=by kernel_rfl
@[simp] theorem zxk:z8 Tryz.prog (.func 68)=false:=q9 zwY
@[simp] theorem zwN:qZ Tryz.prog 69=true:=by kernel_rfl
@[simp] theorem zxr:z8 Tryz.prog (.func 69)=false:=q9 zwN
@[simp] theorem zwR:qZ Tryz.prog 74=true:=by kernel_rfl
@[simp] theorem zxl:z8 Tryz.prog (.func 74)=false:=q9 zwR
@[simp] theorem zx8:qZ Tryz.prog 75=true:=by kernel_rfl
@[simp] theorem zxp:z8 Tryz.prog (.func 75)=false:=q9 zx8
@[simp] theorem zx6:qZ Tryz.prog 77=true:=by kernel_rfl
@[simp] theorem zxx:z8 Tryz.prog (.func 77)=false:=q9 zx6
@[simp] theorem zx2:qZ Tryz.prog 73=true:=by kernel_rfl
@[simp] theorem zxA:z8 Tryz.prog (.func 73)=false:=q9 zx2
@[simp] theorem zwM:qZ Tryz.prog 76=true:=by kernel_rfl
@[simp] theorem zxe:z8 Tryz.prog (.func 76)=false:=q9 zwM
abbrev zxa:Cfg:=⟨fun n=>n==2,fun _=>false⟩
abbrev zwl:TyD:=.struct [3,9,3]
def zv5:AV:=.agg [.i .i64 0,.s [],.i .i64 0]
def zvN (p:Txt):AV:=.agg [.i .i64 1,.s p,.i .i64 0]
noncomputable def zvg (b:BoxV):AV:=if b.over=true then zv5 else zvN b.asks
noncomputable def zv9 (b:BoxV):TV:=.tup [(zwl,zvg b),(qD Tryz.prog 41,zI (yD b).1)]
def zwT (v:AV) (Hs:q8) (f:Txt→Option KnV):Prop:=Hs.er=Hs∧v.er=v∧∀p:Txt,p.length≤2000→VC1 v [.av .str (.s p)] Hs fun r H'=>r=.tup [(KnT,zH ((f p).getD ⟨[],false,[]⟩)),(.bool,.b (f p).isSome)]∧H'=Hs
set_option maxHeartbeats 16000000 in
theorem zvM (B:Nat) (v:AV) (Hs:q8) (f:Txt→Option KnV) (hf:Ans f) (hv:zwT v Hs f) {env:List (Txt × Txt)} {cs:List CmdV} {outs:List Txt} {may:Txt→Bool} {kn:List KnV} {b b':BoxV} {H:q8} {n:Nat}
  (hH:jJ B b H) (hk:Z4 env cs outs may kn b) (ho:outs.length≤1000000) (hgo:goF f n b=some b') :
  q7 Tryz.prog 69 [.av .ptr (.ptr B KD []),.av .func v] (H++Hs) fun y H'=>y=zv9 b'∧(∃H2,H'=H2++Hs∧jJ B b' H2)∧∃kn',Z4 env cs outs may kn' b':=by
 obtain⟨hHs,hve,hvf⟩:=hv
 refine q7.of_vc laid mixed Tryz.func69 rfl cf0 (by kernel_rfl) (by simp[Tryz.ntmps69]) fun imm0 w0=>?_
 (simp (maxSteps:=2000000) (disch:=first|omega|assumption) [zz,-List.reduceReplicate])
 refine AT.loop' (α:=Nat × BoxV × List KnV × q8) (fun x=>St.of [(0,.av .ptr (.ptr B KD [])),(1,.av .func v),(4,.loc 4 []),(5,.loc 5 [])] [(4,(zwl,zv5)),(5,(qD Tryz.prog 41,.agg [.i .i64 0,.i .i64 0,.sl .full [],.sl .full []]))] (fun _=>0) (x.2.2.2++Hs))
  (fun x=>goF f x.1 x.2.1=some b'∧Z4 env cs outs may x.2.2.1 x.2.1∧jJ B x.2.1 x.2.2.2) (fun x=>x.1) (n,b,kn,H) ?_ ?_ ?_
 ·refine Le.of ?_ ?_ ?_ ?_ ?_<;>simp[qU,qG,zX,zv5]<;>try omega
 ·exact⟨hgo,hk,hH⟩
 clear hgo hk hH kn b
 rintro⟨i,b,kn,H⟩ ⟨hgo,hk,hH⟩ KL hN hE
 simp only at hgo hk hH hN
 cases i with
 | zero=>cases hgo
 | succ i =>
 rw[goF]at hgo
 have hHe:=hH.er
 refine qM (cf:=cf0) laid mixed _ _ _ (by kernel_rfl) ?_
 (simp (maxSteps:=2000000) (disch:=first|omega|assumption) [zz,-List.reduceReplicate,zv5])
 refine qE (R:=fun y H'=>y=.tup [(.str,.s (if b.over=true then [] else b.asks)),(.bool,.b (!b.over))]∧jJ B b H') H Hs (List.Perm.refl _) rfl (by simp[qQ]) (by simp) ?_ ?_
 ·rw[hHe];simpa[TV.er,AV.er]using zci B hH
 rintro y H1 ⟨rfl,hH1⟩ _
 clear hH hHe
 have hHe1:=hH1.er
 refine⟨H1++Hs,HSub.refl _,?_⟩
 by_cases hov:b.over=true
 ·rw[if_pos hov]at hgo
  have hb:=Option.some.inj hgo
  subst hb
  have h2:=uJ hov
  have hers:(zI (yD b).1).er=zI (yD b).1:=KO _
  (simp (maxSteps:=2000000) (disch:=first|omega|assumption) [zz,-List.reduceReplicate,hov])
  refine qE (R:=fun y H'=>y=.tup [(qD Tryz.prog 41,zI (yD b).1),(.bool,.b (yD b).2)]∧jJ B b H') H1 Hs (List.Perm.refl _) rfl (by simp[qQ]) (by simp) ?_ ?_
  ·rw[hHe1];simpa[TV.er,AV.er]using QN B hH1 (by have:=hk.rl;omega) (hk.wl ho)
  rintro y H2 ⟨rfl,hH2⟩ _
  have hHe2:=hH2.er
  refine⟨H2++Hs,HSub.refl _,?_⟩
  (simp (maxSteps:=2000000) (disch:=first|omega|assumption) [zz,-List.reduceReplicate])
  (repeat with_reducible refine om ?_)
  refine hE _ _ (by simp) ?_
  (simp (maxSteps:=2000000) (disch:=first|omega|assumption) [zz,-List.reduceReplicate,q8.er_app,hHe2,hHs,zv9,zvg,zv5,hov,hers,Tryz.f69])
  exact⟨hH2,kn,hk⟩
 ·rw[if_neg hov]at hgo
  have hov':b.over=false:=by simpa using hov
  have hw:=KN hov'
  have hal:=hk.askl hov'
  have hvc:=hvf b.asks (by omega)
  (simp (maxSteps:=2000000) (disch:=first|omega|assumption) [zz,-List.reduceReplicate,hov'])
  refine ZG (R:=fun r H'=>r=.tup [(KnT,zH ((f b.asks).getD ⟨[],false,[]⟩)),(.bool,.b (f b.asks).isSome)]∧H'=Hs) Hs H1 List.perm_append_comm hHs (by simp[qQ]) hvc ?_
  rintro r' H' ⟨rfl,rfl⟩ _
  refine⟨H1++H',HSub.of_perm List.perm_append_comm,?_⟩
  cases hfk:f b.asks with
  | none =>
   rw[hfk]at hgo
   have hb:=Option.some.inj hgo
   subst hb
   (simp (maxSteps:=2000000) (disch:=first|omega|assumption) [zz,-List.reduceReplicate,zH])
   refine hE _ _ (by simp) ?_
   (simp (maxSteps:=2000000) (disch:=first|omega|assumption) [zz,-List.reduceReplicate,q8.er_app,hHe1,hHs,zv9,zvg,zvN,hov',hw,zI,zU,qF,Tryz.f69])
   exact⟨hH1,kn,hk⟩
  | some k =>
   rw[hfk]at hgo
   simp only at hgo
   obtain⟨hk1,hk2⟩:=hf _ _ hfk
   obtain⟨hgv,hk3⟩:=hk.give k hov' hk1 hk2
   have hbg:=dW B hH1 hk.g k (by omega) (by have:=hk.rl;omega) (fun h1 h2 h3=>hk.can k h1 h2 hk2)
   rw[hgv]at hbg
   have hke:(zH k).er=zH k:=(vU k).1
   (simp (maxSteps:=2000000) (disch:=first|omega|assumption) [zz,-List.reduceReplicate])
   refine qE (R:=fun y H'=>y=.av (.int .i64) (.i .i64 0)∧jJ B (kB k b).2 H') H1 H' (List.Perm.refl _) rfl (by simp[qQ]) (by simp) ?_ ?_
   ·rw[hHe1]
    simpa[TV.er,AV.er,hke]using hbg
   rintro y H4 ⟨rfl,hH4⟩ _
   refine⟨H4++H',HSub.refl _,?_⟩
   (simp (maxSteps:=2000000) (disch:=first|omega|assumption) [zz,-List.reduceReplicate])
   refine hN _ (i,(kB k b).2,kn++[k],H4) ?_ ⟨hgo,hk3,hH4⟩ (by simp only;omega)
   refine Le.of ?_ ?_ ?_ ?_ ?_<;>simp[qU,qG,zX,zv5]<;>try omega
theorem zvu (a:xW) (hab:zky a) (lg:Bool) {e:Int} {n:Nat} (hcv:j7 a.tool=.error (e,n)):PC Tryz.prog 68 [.av UI (kT a),.av .bool (.b lg)] (.tup [(.ptr,.nilptr),(.int .i64,.i .i64 e)]):=by
 have hae:=YB a
 have hnew:=DZ a hab
 unfold zes at hnew
 rw[hcv]at hnew
 have hne:¬e=0:=by rcases Z8 hcv with h|h<;>omega
 obtain⟨A,hA⟩:∃A,A=kT a:=⟨_,rfl⟩
 rw[←hA]at hnew hae ⊢
 refine PC.of <| q7.of_vc laid mixed Tryz.func68 rfl cf0 (by kernel_rfl) (by simp[Tryz.ntmps68]) fun imm0 w0=>?_
 (simp (maxSteps:=2000000) (disch:=first|omega|assumption) [zz,-List.reduceReplicate])
 refine jP (R:=fun r H'=>r=.tup [(.ptr,.nilptr),(.int .i64,.i .i64 e)]∧H'=[]) rfl (by simp[qQ]) (by simp) ?_ ?_
 ·simpa[TV.er,hae,q8.er_nil]using hnew
 rintro r H' ⟨rfl,rfl⟩
 (simp (maxSteps:=2000000) (disch:=first|omega|assumption) [zz,-List.reduceReplicate,hne,Tryz.f68])
theorem zvA (a:xW) (hab:zky a) {cs:List CmdV} (hcv:j7 a.tool=.ok cs):q7 Tryz.prog 68 [.av UI (kT a),.av .bool (.b false)] [] fun r H'=>∃B,r=.tup [(.ptr,.ptr B KD []),(.int .i64,.i .i64 0)]∧jJ B (ZR a.env a.outs (jI a) cs) H':=by
 have hae:=YB a
 have hnew:=DZ a hab
 unfold zes at hnew
 rw[hcv]at hnew
 obtain⟨A,hA⟩:∃A,A=kT a:=⟨_,rfl⟩
 rw[←hA]at hnew hae ⊢
 refine q7.of_vc laid mixed Tryz.func68 rfl cf0 (by kernel_rfl) (by simp[Tryz.ntmps68]) fun imm0 w0=>?_
 (simp (maxSteps:=2000000) (disch:=first|omega|assumption) [zz,-List.reduceReplicate])
 refine jP (R:=fun r H'=>∃B,r=.tup [(.ptr,.ptr B KD []),(.int .i64,.i .i64 0)]∧jJ B (ZR a.env a.outs (jI a) cs) H') rfl (by simp[qQ]) (by simp) ?_ ?_
 ·simpa[TV.er,hae,q8.er_nil]using hnew
 rintro r H ⟨B,rfl,hH⟩
 have hHe:=hH.er
 (simp (maxSteps:=2000000) (disch:=first|omega|assumption) [zz,-List.reduceReplicate,hHe,Tryz.f68])
 exact hH
abbrev zwh:Cfg:=⟨fun n=>n==3,fun _=>false⟩
end Go.Proofs.YthgocigdldgpgaaGreatDoor
end
