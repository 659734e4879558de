/- An action over files: the program. No condition beyond each theorem's own. -/
import Derived.Test.YtidhkfcjichiiaaGreatDoorFK4ToFW0
set_option linter.unusedSimpArgs false
set_option linter.unusedVariables false
set_option linter.unusedSectionVars false
section
set_option maxRecDepth 100000
namespace Go.Proofs.YtidhkfcjichiiaaGreatDoor
open Go Go.Ab
open Classical
variable [Sel] [SelPow] [SelMax]
abbrev zwl:TyD:=.struct [3,9,3]
def zv5:AV:=.agg [.i .i64 0,.s [],.i .i64 0]
def zvN (p:Txt):AV:=.agg [.i .i64 1,.s p,.i .i64 0]
noncomputable def zvg (b:BoxV):AV:=if b.over=true then zv5 else zvN b.asks
noncomputable def zv9 (b:BoxV):TV:=.tup [(zwl,zvg b),(qD Tryz.prog 41,zI (yD b).1)]
def zwT (v:AV) (Hs:q8) (f:Txt→Option KnV):Prop:=Hs.er=Hs∧v.er=v∧∀p:Txt,p.length≤2000→VC1 v [.av .str (.s p)] Hs fun r H'=>r=.tup [(KnT,zH ((f p).getD ⟨[],false,[]⟩)),(.bool,.b (f p).isSome)]∧H'=Hs
set_option maxHeartbeats 16000000 in
theorem zvM (B:Nat) (v:AV) (Hs:q8) (f:Txt→Option KnV) (hf:Ans f) (hv:zwT v Hs f) {env:List (Txt × Txt)} {cs:List CmdV} {outs:List Txt} {may:Txt→Bool} {kn:List KnV} {b b':BoxV} {H:q8} {n:Nat}
  (hH:jJ B b H) (hk:Z4 env cs outs may kn b) (ho:outs.length≤1000000) (hgo:goF f n b=some b') :
  q7 Tryz.prog 79 [.av .ptr (.ptr B KD []),.av .func v] (H++Hs) fun y H'=>y=zv9 b'∧(∃H2,H'=H2++Hs∧jJ B b' H2)∧∃kn',Z4 env cs outs may kn' b':=by
 obtain⟨hHs,hve,hvf⟩:=hv
 refine q7.of_vc laid mixed Tryz.func79 rfl cf0 (by kernel_rfl) (by simp[Tryz.ntmps79]) fun imm0 w0=>?_
 (simp (maxSteps:=2000000) (disch:=first|omega|assumption) [zz,-List.reduceReplicate])
 refine AT.loop' (α:=Nat × BoxV × List KnV × q8) (fun x=>St.of [(0,.av .ptr (.ptr B KD [])),(1,.av .func v),(4,.loc 4 []),(5,.loc 5 [])] [(4,(zwl,zv5)),(5,(qD Tryz.prog 41,.agg [.i .i64 0,.i .i64 0,.sl .full [],.sl .full []]))] (fun _=>0) (x.2.2.2++Hs))
  (fun x=>goF f x.1 x.2.1=some b'∧Z4 env cs outs may x.2.2.1 x.2.1∧jJ B x.2.1 x.2.2.2) (fun x=>x.1) (n,b,kn,H) ?_ ?_ ?_
 ·refine Le.of ?_ ?_ ?_ ?_ ?_<;>simp[qU,qG,zX,zv5]<;>try omega
 ·exact⟨hgo,hk,hH⟩
 clear hgo hk hH kn b
 rintro⟨i,b,kn,H⟩ ⟨hgo,hk,hH⟩ KL hN hE
 simp only at hgo hk hH hN
 cases i with
 | zero=>cases hgo
 | succ i =>
 rw[goF]at hgo
 have hHe:=hH.er
 refine qM (cf:=cf0) laid mixed _ _ _ (by kernel_rfl) ?_
 (simp (maxSteps:=2000000) (disch:=first|omega|assumption) [zz,-List.reduceReplicate,zv5])
 refine qE (R:=fun y H'=>y=.tup [(.str,.s (if b.over=true then [] else b.asks)),(.bool,.b (!b.over))]∧jJ B b H') H Hs (List.Perm.refl _) rfl (by simp[qQ]) (by simp) ?_ ?_
 ·rw[hHe];simpa[TV.er,AV.er]using zci B hH
 rintro y H1 ⟨rfl,hH1⟩ _
 clear hH hHe
 have hHe1:=hH1.er
 refine⟨H1++Hs,HSub.refl _,?_⟩
 by_cases hov:b.over=true
 ·rw[if_pos hov]at hgo
  have hb:=Option.some.inj hgo
  subst hb
  have h2:=uJ hov
  have hers:(zI (yD b).1).er=zI (yD b).1:=KO _
  (simp (maxSteps:=2000000) (disch:=first|omega|assumption) [zz,-List.reduceReplicate,hov])
  refine qE (R:=fun y H'=>y=.tup [(qD Tryz.prog 41,zI (yD b).1),(.bool,.b (yD b).2)]∧jJ B b H') H1 Hs (List.Perm.refl _) rfl (by simp[qQ]) (by simp) ?_ ?_
  ·rw[hHe1];simpa[TV.er,AV.er]using QN B hH1 (by have:=hk.rl;omega) (hk.wl ho)
  rintro y H2 ⟨rfl,hH2⟩ _
  have hHe2:=hH2.er
  refine⟨H2++Hs,HSub.refl _,?_⟩
  (simp (maxSteps:=2000000) (disch:=first|omega|assumption) [zz,-List.reduceReplicate])
  (repeat with_reducible refine om ?_)
  refine hE _ _ (by simp) ?_
  (simp (maxSteps:=2000000) (disch:=first|omega|assumption) [zz,-List.reduceReplicate,q8.er_app,hHe2,hHs,zv9,zvg,zv5,hov,hers,Tryz.f79])
  exact⟨hH2,kn,hk⟩
 ·rw[if_neg hov]at hgo
  have hov':b.over=false:=by simpa using hov
  have hw:=KN hov'
  have hal:=hk.askl hov'
  have hvc:=hvf b.asks (by omega)
  (simp (maxSteps:=2000000) (disch:=first|omega|assumption) [zz,-List.reduceReplicate,hov'])
  refine ZG (R:=fun r H'=>r=.tup [(KnT,zH ((f b.asks).getD ⟨[],false,[]⟩)),(.bool,.b (f b.asks).isSome)]∧H'=Hs) Hs H1 List.perm_append_comm hHs (by simp[qQ]) hvc ?_
  rintro r' H' ⟨rfl,rfl⟩ _
  refine⟨H1++H',HSub.of_perm List.perm_append_comm,?_⟩
  cases hfk:f b.asks with
  | none =>
   rw[hfk]at hgo
   have hb:=Option.some.inj hgo
   subst hb
   (simp (maxSteps:=2000000) (disch:=first|omega|assumption) [zz,-List.reduceReplicate,zH])
   refine hE _ _ (by simp) ?_
   (simp (maxSteps:=2000000) (disch:=first|omega|assumption) [zz,-List.reduceReplicate,q8.er_app,hHe1,hHs,zv9,zvg,zvN,hov',hw,zI,zU,qF,Tryz.f79])
   exact⟨hH1,kn,hk⟩
  | some k =>
   rw[hfk]at hgo
   simp only at hgo
   obtain⟨hk1,hk2⟩:=hf _ _ hfk
   obtain⟨hgv,hk3⟩:=hk.give k hov' hk1 (fun _=>hk2)
   have hbg:=dW B hH1 hk.g k (by omega) (by have:=hk.rl;omega) (fun h1 h2 h3=>hk.can k h1 h2 (fun _=>hk2))
   rw[hgv]at hbg
   have hke:(zH k).er=zH k:=(vU k).1
   (simp (maxSteps:=2000000) (disch:=first|omega|assumption) [zz,-List.reduceReplicate])
   refine qE (R:=fun y H'=>y=.av (.int .i64) (.i .i64 0)∧jJ B (kB k b).2 H') H1 H' (List.Perm.refl _) rfl (by simp[qQ]) (by simp) ?_ ?_
   ·rw[hHe1]
    simpa[TV.er,AV.er,hke]using hbg
   rintro y H4 ⟨rfl,hH4⟩ _
   refine⟨H4++H',HSub.refl _,?_⟩
   (simp (maxSteps:=2000000) (disch:=first|omega|assumption) [zz,-List.reduceReplicate])
   refine hN _ (i,(kB k b).2,kn++[k],H4) ?_ ⟨hgo,hk3,hH4⟩ (by simp only;omega)
   refine Le.of ?_ ?_ ?_ ?_ ?_<;>simp[qU,qG,zX,zv5]<;>try omega
theorem zvu (a:xW) (hab:zky a) (lg:Bool) {e:Int} {n:Nat} (hcv:j7 a.tool=.error (e,n)):PC Tryz.prog 78 [.av UI (kT a),.av .bool (.b lg)] (.tup [(.ptr,.nilptr),(.int .i64,.i .i64 e)]):=by
 have hae:=YB a
 have hnew:=DZ a hab
 unfold zes at hnew
 rw[hcv]at hnew
 have hne:¬e=0:=by rcases Z8 hcv with h|h<;>omega
 obtain⟨A,hA⟩:∃A,A=kT a:=⟨_,rfl⟩
 rw[←hA]at hnew hae ⊢
 refine PC.of <| q7.of_vc laid mixed Tryz.func78 rfl cf0 (by kernel_rfl) (by simp[Tryz.ntmps78]) fun imm0 w0=>?_
 (simp (maxSteps:=2000000) (disch:=first|omega|assumption) [zz,-List.reduceReplicate])
 refine jP (R:=fun r H'=>r=.tup [(.ptr,.nilptr),(.int .i64,.i .i64 e)]∧H'=[]) rfl (by simp[qQ]) (by simp) ?_ ?_
 ·simpa[TV.er,hae,q8.er_nil]using hnew
 rintro r H' ⟨rfl,rfl⟩
 (simp (maxSteps:=2000000) (disch:=first|omega|assumption) [zz,-List.reduceReplicate,hne,Tryz.f78])
theorem zvL (a:xW) (hab:zky a) {cs:List CmdV} (hcv:j7 a.tool=.ok cs):PC Tryz.prog 78 [.av UI (kT a),.av .bool (.b true)] (.tup [(.ptr,.nilptr),(.int .i64,.i .i64 6)]):=by
 have hae:=YB a
 have hnew:=DZ a hab
 unfold zes at hnew
 rw[hcv]at hnew
 obtain⟨A,hA⟩:∃A,A=kT a:=⟨_,rfl⟩
 rw[←hA]at hnew hae ⊢
 refine PC.of <| q7.of_vc laid mixed Tryz.func78 rfl cf0 (by kernel_rfl) (by simp[Tryz.ntmps78]) fun imm0 w0=>?_
 (simp (maxSteps:=2000000) (disch:=first|omega|assumption) [zz,-List.reduceReplicate])
 refine jP (R:=fun r H'=>∃B,r=.tup [(.ptr,.ptr B KD []),(.int .i64,.i .i64 0)]∧jJ B (ZR a.env a.outs (jI a) cs) H') rfl (by simp[qQ]) (by simp) ?_ ?_
 ·simpa[TV.er,hae,q8.er_nil]using hnew
 rintro r H' ⟨B,rfl,hH⟩
 (simp (maxSteps:=2000000) (disch:=first|omega|assumption) [zz,-List.reduceReplicate,Tryz.f78])
theorem zvA (a:xW) (hab:zky a) {cs:List CmdV} (hcv:j7 a.tool=.ok cs):q7 Tryz.prog 78 [.av UI (kT a),.av .bool (.b false)] [] fun r H'=>∃B,r=.tup [(.ptr,.ptr B KD []),(.int .i64,.i .i64 0)]∧jJ B (ZR a.env a.outs (jI a) cs) H':=by
 have hae:=YB a
 have hnew:=DZ a hab
 unfold zes at hnew
 rw[hcv]at hnew
 obtain⟨A,hA⟩:∃A,A=kT a:=⟨_,rfl⟩
 rw[←hA]at hnew hae ⊢
 refine q7.of_vc laid mixed Tryz.func78 rfl cf0 (by kernel_rfl) (by simp[Tryz.ntmps78]) fun imm0 w0=>?_
 (simp (maxSteps:=2000000) (disch:=first|omega|assumption) [zz,-List.reduceReplicate])
 refine jP (R:=fun r H'=>∃B,r=.tup [(.ptr,.ptr B KD []),(.int .i64,.i .i64 0)]∧jJ B (ZR a.env a.outs (jI a) cs) H') rfl (by simp[qQ]) (by simp) ?_ ?_
 ·simpa[TV.er,hae,q8.er_nil]using hnew
 rintro r H ⟨B,rfl,hH⟩
 have hHe:=hH.er
 (simp (maxSteps:=2000000) (disch:=first|omega|assumption) [zz,-List.reduceReplicate,hHe,Tryz.f78])
 exact hH
abbrev zwh:Cfg:=⟨fun n=>n==3,fun _=>false⟩
set_option maxHeartbeats 16000000 in
theorem zvG (a:xW) (hab:zky a) (fs:List U1) (hn:fs.length≤1000000000) :
  PC Tryz.prog 35 [.av UI (kT a),.av (.slice 63) (zU fs)] (.tup [(qD Tryz.prog 41,zI (zuI a fs).1),(.int .i64,.i .i64 (zuI a fs).2)]):=by
 have hae:=YB a
 have hef:=zdW fs
 have hfb:=zvR fs
 cases hcv:j7 a.tool with
 | error en =>
  obtain⟨e,n⟩:=en
  have hv:zuI a fs=(zvh,e):=by unfold zuI;rw[hcv]
  have hne:¬e=0:=by rcases Z8 hcv with h|h<;>omega
  have hbe:=zvu a hab (zuK fs) hcv
  rw[hv]
  obtain⟨A,hA⟩:∃A,A=kT a:=⟨_,rfl⟩
  rw[←hA]at hbe hae ⊢
  refine PC.of <| q7.of_vc laid mixed Tryz.func35 rfl zwh (by kernel_rfl) (by simp[Tryz.ntmps35]) fun imm0 w0=>?_
  (simp (maxSteps:=2000000) (disch:=first|omega|assumption) [zz,-List.reduceReplicate])
  intro bf
  refine qL (zvK fs hn) rfl rfl (by simp) (by simp[qS,TV.er,AV.er,hef]) ?_
  (simp (maxSteps:=2000000) (disch:=first|omega|assumption) [zz,-List.reduceReplicate])
  refine qL hbe rfl rfl (by simp) (by simp[qS,TV.er,AV.er,hae]) ?_
  (simp (maxSteps:=2000000) (disch:=first|omega|assumption) [zz,-List.reduceReplicate,hne,zvh,zI,zU,qF,Tryz.f35])
 | ok cs =>
  cases hl:zuK fs with
  | true =>
   have hv:zuI a fs=(zvh,6):=by unfold zuI;rw[hcv];simp[hl]
   have hlo:=zvK fs hn
   have hbe:=zvL a hab hcv
   rw[hl]at hlo
   rw[hv]
   obtain⟨A,hA⟩:∃A,A=kT a:=⟨_,rfl⟩
   rw[←hA]at hbe hae ⊢
   refine PC.of <| q7.of_vc laid mixed Tryz.func35 rfl zwh (by kernel_rfl) (by simp[Tryz.ntmps35]) fun imm0 w0=>?_
   (simp (maxSteps:=2000000) (disch:=first|omega|assumption) [zz,-List.reduceReplicate])
   intro bf
   refine qL hlo rfl rfl (by simp) (by simp[qS,TV.er,AV.er,hef]) ?_
   (simp (maxSteps:=2000000) (disch:=first|omega|assumption) [zz,-List.reduceReplicate])
   refine qL hbe rfl rfl (by simp) (by simp[qS,TV.er,AV.er,hae]) ?_
   (simp (maxSteps:=2000000) (disch:=first|omega|assumption) [zz,-List.reduceReplicate,zvh,zI,zU,qF,Tryz.f35])
  | false =>
   obtain⟨hgo,hov,hbk⟩:=zv2 hab hcv hl
   obtain⟨b',hb'⟩:∃b',b'=zuJ (zuM fs) a cs:=⟨_,rfl⟩
   rw[←hb']at hgo hov
   have hv:zuI a fs=((yD b').1,0):=by unfold zuI;rw[hcv];simp[hl,hb']
   have hlo:=zvK fs hn
   have hbe:=zvA a hab hcv
   rw[hl]at hlo
   rw[hv]
   obtain⟨A,hA⟩:∃A,A=kT a:=⟨_,rfl⟩
   rw[←hA]at hbe hae ⊢
   refine PC.of <| q7.of_vc laid mixed Tryz.func35 rfl zwh (by kernel_rfl) (by simp[Tryz.ntmps35]) fun imm0 w0=>?_
   (simp (maxSteps:=2000000) (disch:=first|omega|assumption) [zz,-List.reduceReplicate])
   intro bf
   refine qL hlo rfl rfl (by simp) (by simp[qS,TV.er,AV.er,hef]) ?_
   (simp (maxSteps:=2000000) (disch:=first|omega|assumption) [zz,-List.reduceReplicate])
   refine qE (R:=fun r H'=>∃B,r=.tup [(.ptr,.ptr B KD []),(.int .i64,.i .i64 0)]∧jJ B (ZR a.env a.outs (jI a) cs) H') [] [(bf,zuP fs)] (by simp[zuP]) rfl (by simp[qQ]) (by simp) ?_ ?_
   ·simpa[TV.er,AV.er,hae,q8.er_nil]using hbe
   rintro r H ⟨B,rfl,hH⟩ _
   have hHe:=hH.er
   refine⟨H++[(bf,zuP fs)],HSub.refl _,?_⟩
   (simp (maxSteps:=2000000) (disch:=first|omega|assumption) [zz,-List.reduceReplicate])
   have hans:zwT (.fn 80 [.ptr bf (.slice 63) []]) [(bf,zuP fs)] (zuM fs):=⟨by simp[q8.er_cons,hfb],rfl,fun p hp=>⟨_,rfl,by simp,by simpa[TV.er,AV.er,zuM]using zwu bf fs hn p⟩⟩
   refine qE (R:=fun y H'=>y=zv9 b'∧(∃H2,H'=H2++[(bf,zuP fs)]∧jJ B b' H2)∧∃kn',Z4 a.env cs a.outs (jI a) kn' b') (H++[(bf,zuP fs)]) [] (by simp) rfl (by simp[qQ]) (by simp) ?_ ?_
   ·rw[q8.er_app,hHe,q8.er_cons,hfb,q8.er_nil]
    have:=zvM B _ _ _ (zuU hl) hans hH hbk hab.bo hgo
    simpa[TV.er,AV.er]using this
   rintro y H1 ⟨rfl,_,_⟩ _
   refine⟨H1,by simpa using HSub.refl _,?_⟩
   (simp (maxSteps:=2000000) (disch:=first|omega|assumption) [zz,-List.reduceReplicate,zv9,Tryz.f35])
@[simp] theorem zx8:qZ Tryz.prog 75=true:=by kernel_rfl
@[simp] theorem zxp:z8 Tryz.prog (.func 75)=false:=q9 zx8
@[simp] theorem zzM:qZ Tryz.prog 134=true:=by kernel_rfl
@[simp] theorem zAI:z8 Tryz.prog (.func 134)=false:=q9 zzM
@[simp] theorem zmY:qZ Tryz.prog 135=true:=by kernel_rfl
@[simp] theorem zra:z8 Tryz.prog (.func 135)=false:=q9 zmY
@[simp] theorem zlz:qZ Tryz.prog 137=true:=by kernel_rfl
@[simp] theorem zqY:z8 Tryz.prog (.func 137)=false:=q9 zlz
@[simp] theorem zAq:qZ Tryz.prog 133=true:=by kernel_rfl
@[simp] theorem zBh:z8 Tryz.prog (.func 133)=false:=q9 zAq
@[simp] theorem zkc:qZ Tryz.prog 136=true:=by kernel_rfl
@[simp] theorem zqX:z8 Tryz.prog (.func 136)=false:=q9 zkc
def zvX (f:AV) (Hs:q8) (g:KnV→Bool) (ts:List KnV):Prop:=Hs.er=Hs∧f.er=f∧∀x∈ts,VC1 f [.av KnT (zH x)] Hs fun r H'=>r=.av .bool (.b (g x))∧H'=Hs
set_option maxHeartbeats 4000000 in
theorem zw4 (g:KnV→Bool) (f:AV) (Hs:q8) (ts:List KnV) (hf:zvX f Hs g ts) (hn:ts.length≤1000000000) :
  q7 Tryz.prog 136 [.av (.slice 57) (zL ts),.av .func f] Hs
   fun r H'=>r=.av (.int .i64) (.i .i64 (J7 g ts))∧H'=Hs:=by
 obtain⟨ho,hfe,hff⟩:=hf
 refine q7.of_vc laid mixed Tryz.func136 rfl cf0 (by kernel_rfl) (by simp[Tryz.ntmps136]) fun imm0 w0=>?_
 (simp (maxSteps:=2000000) (disch:=first|omega|assumption) [zz,-List.reduceReplicate,zL])
 refine AT.loop' (α:=Nat) (fun k=>St.of [(0,.av (.slice 57) (.sl .no (ts.map zH))),(1,.av .func f),(7,.av (.int .i64) (.i .i64 ts.length)),(8,.av (.int .i64) (.i .i64 k))] [] (fun _=>0) Hs)
  (fun k=>k≤ts.length∧∀x∈ts.take k,g x=false) (fun k=>ts.length-k) 0 ?_ ?_ ?_
 ·refine Le.of ?_ ?_ ?_ ?_ ?_<;>simp[qU,qG]
 ·simp
 rintro k ⟨hk',hpk⟩ KL hN hE
 refine qM (cf:=cf0) laid mixed _ _ _ (by kernel_rfl) ?_
 by_cases hlt:k<ts.length
 ·have hlt':(k:Int)<ts.length:=by omega
  have hg:=KB zH ts k hlt
  (simp (maxSteps:=2000000) (disch:=first|omega|assumption) [zz,-List.reduceReplicate,hlt',hg])
  refine ZG (R:=fun r' H'=>r'=.av .bool (.b (g ts[k]))∧H'=Hs) Hs [] (by simp) ho (by simp[qQ]) (hff _ (List.getElem_mem hlt)) ?_
  rintro r' H' ⟨rfl,rfl⟩ _
  refine⟨H',by simpa using HSub.refl _,?_⟩
  by_cases hp:g ts[k]=true
  ·(simp (maxSteps:=2000000) (disch:=first|omega|assumption) [zz,-List.reduceReplicate,hp])
   refine hE _ _ (by simp) ?_
   (simp (maxSteps:=2000000) (disch:=first|omega|assumption) [zz,-List.reduceReplicate,Tryz.f136,uL hlt hpk hp,ho])
  ·(simp (maxSteps:=2000000) (disch:=first|omega|assumption) [zz,-List.reduceReplicate,hp])
   refine hN _ (k+1) ?_ ⟨by omega,by rw[Z2 hlt];exact⟨hpk,by simpa using hp⟩⟩ (by omega)
   refine Le.of ?_ ?_ ?_ ?_ ?_<;>simp[qU,qG]
 ·have hlt':¬(k:Int)<ts.length:=by omega
  (simp (maxSteps:=2000000) (disch:=first|omega|assumption) [zz,-List.reduceReplicate,hlt'])
  refine hE _ _ (by simp) ?_
  rw[List.take_of_length_le (by omega)]at hpk
  (simp (maxSteps:=2000000) (disch:=first|omega|assumption) [zz,-List.reduceReplicate,Tryz.f136,x9 hpk,ho])
theorem zwr (x:KnV) (h:x.data.length≤65536):PC Tryz.prog 134 [.av KnT (zH x)] (.av .bool (.b false)):=by
 refine PC.of <| q7.of_vc laid mixed Tryz.func134 rfl cf0 (by kernel_rfl) (by simp[Tryz.ntmps134]) fun imm0 w0=>?_
 (simp (maxSteps:=2000000) (disch:=first|omega|assumption) [zz,-List.reduceReplicate,zH])
 have h':¬(65536:Int)<x.data.length:=by omega
 cases hi:x.is
 ·(simp (maxSteps:=2000000) (disch:=first|omega|assumption) [zz,-List.reduceReplicate,hi,Tryz.f134])
 ·(simp (maxSteps:=2000000) (disch:=first|omega|assumption) [zz,-List.reduceReplicate,hi,h',Tryz.f134])
theorem zwk (ts:List KnV) (hn:ts.length≤1000000000) (hd:∀k∈ts,k.data.length≤65536):PC Tryz.prog 133 [.av (.slice 57) (zL ts),.av .func (.fn 134 [])] (.av .bool (.b false)):=by
 have hf:zvX (.fn 134 []) [] (fun _=>false) ts:=⟨rfl,rfl,fun x hx=>⟨[],rfl,by simp,by have h9:=zwr x (hd x hx);unfold PC at h9;simpa[TV.er,AV.er,(vU x).1]using h9⟩⟩
 have hef:=YO ts
 refine PC.of <| q7.of_vc laid mixed Tryz.func133 rfl cf0 (by kernel_rfl) (by simp[Tryz.ntmps133]) fun imm0 w0=>?_
 (simp (maxSteps:=2000000) (disch:=first|omega|assumption) [zz,-List.reduceReplicate])
 refine qE (R:=fun r' H'=>r'=.av (.int .i64) (.i .i64 (J7 (fun _:KnV=>false) ts))∧H'=[]) [] [] (by simp) rfl (by simp[qQ]) (by simp) ?_ ?_
 ·have:=zw4 _ _ _ ts hf hn
  simpa[TV.er,AV.er,hef]using this
 rintro r' H' ⟨rfl,rfl⟩ _
 refine⟨[],by simpa using HSub.refl _,?_⟩
 have he:J7 (fun _:KnV=>false) ts=-1:=x9 fun _ _=>rfl
 rw[he]
 (simp (maxSteps:=2000000) (disch:=first|omega|assumption) [zz,-List.reduceReplicate,Tryz.f133])
theorem zwn (b:Nat) (p:Txt) (x:KnV):q7 Tryz.prog 137 [.av KnT (zH x),.av .ptr (.ptr b .str [])] [(b,zF p)] fun r H'=>r=.av .bool (.b (decide (x.path=p)))∧H'=[(b,zF p)]:=by
 refine q7.of_vc laid mixed Tryz.func137 rfl cf0 (by kernel_rfl) (by simp[Tryz.ntmps137]) fun imm0 w0=>?_
 (simp (maxSteps:=2000000) (disch:=first|omega|assumption) [zz,-List.reduceReplicate,zF,zH])
 (simp (maxSteps:=2000000) (disch:=first|omega|assumption) [zz,-List.reduceReplicate,Tryz.f137])
noncomputable def zuQ (ks:List KnV):HObj:=.var (.slice 57) (zL ks)
theorem zvV (ks:List KnV):(zuQ ks).er=zuQ ks:=by simp[zuQ,HObj.er_var,AV.erk,zL,AV.ers_eq,Function.comp_def,vU]
set_option maxHeartbeats 4000000 in
theorem zwA (bf:Nat) (ks:List KnV) (hn:ks.length≤1000000000) (p:Txt) :
  q7 Tryz.prog 135 [.av .str (.s p),.av .ptr (.ptr bf (.slice 57) [])] [(bf,zuQ ks)] fun r H'=>r=.tup [(KnT,zH ((zQ ks p).getD ⟨[],false,[]⟩)),(.bool,.b (zQ ks p).isSome)]∧H'=[(bf,zuQ ks)]:=by
 have hef:=YO ks
 have hbe:=zvV ks
 refine q7.sub (R:=fun r H'=>r=.tup [(KnT,zH ((zQ ks p).getD ⟨[],false,[]⟩)),(.bool,.b (zQ ks p).isSome)]∧∃H2,Ab.HSub H2 H'∧H2=[(bf,zuQ ks)]) ?_ fun y H' ⟨h1,H2,h2,h3⟩ _=>⟨H2,h2,h1,h3⟩
 refine q7.of_vc laid mixed Tryz.func135 rfl zxa (by kernel_rfl) (by simp[Tryz.ntmps135]) fun imm0 w0=>?_
 (simp (maxSteps:=2000000) (disch:=first|omega|assumption) [zz,-List.reduceReplicate])
 intro b m1
 have m1':¬bf=b:=fun e=>m1 e.symm
 rw[show zuQ ks=.var (.slice 57) (zL ks) from rfl]at hbe ⊢
 (simp (maxSteps:=2000000) (disch:=first|omega|assumption) [zz,-List.reduceReplicate,m1,m1'])
 have hf:zvX (.fn 137 [.ptr b .str []]) [(b,zF p)] (fun x=>decide (x.path=p)) ks:=⟨rfl,rfl,fun x hx=>⟨_,rfl,by simp,by simpa[TV.er,AV.er,(vU x).1]using zwn b p x⟩⟩
 refine qE (R:=fun r' H'=>r'=.av (.int .i64) (.i .i64 (J7 (fun x:KnV=>decide (x.path=p)) ks))∧H'=[(b,zF p)]) [(b,zF p)] [(bf,zuQ ks)] (by simp[zuQ,zF]) rfl (by simp[qQ]) (by simp) ?_ ?_
 ·have:=zw4 _ _ _ ks hf hn
  simpa[TV.er,AV.er,hef,q8.er_cons,zF,HObj.er_var,AV.erk]using this
 rintro r' H' ⟨rfl,rfl⟩ _
 refine⟨_,HSub.refl _,?_⟩
 rcases ze8 (fun x:KnV=>decide (x.path=p)) ks with⟨he,hf⟩|⟨i,hi,he,hf⟩
 ·have ht:zQ ks p=none:=hf
  rw[he,ht]
  (simp (maxSteps:=2000000) (disch:=first|omega|assumption) [zz,-List.reduceReplicate,zF,zuQ,m1,m1',hbe,zH,Tryz.f135])
  exact HSub.of_sub ((List.Sublist.refl _).cons _)
 ·have ht:zQ ks p=some ks[i]:=hf
  have hg:=pZ ks i hi
  have hi':(i:Int)<ks.length:=by omega
  have hi0:¬(i:Int)<0:=by omega
  have hke:(zH ks[i]).er=zH ks[i]:=(vU _).1
  have hee:AV.ers (ks.map zH)=ks.map zH:=by simp[AV.ers_eq,Function.comp_def,vU]
  rw[he,ht]
  (simp (maxSteps:=2000000) (disch:=first|omega|assumption) [zz,-List.reduceReplicate,zF,zuQ,m1,m1',hi',hi0,zL,hg])
  (simp (maxSteps:=2000000) (disch:=first|omega|assumption) [zz,-List.reduceReplicate,hee,hke,Tryz.f135])
  exact HSub.of_sub ((List.Sublist.refl _).cons _)
noncomputable def zvY (a:xW) (ks:List KnV):AV × zcy × Int:=match j7 a.tool with
 | .error en=>(zv5,zvh,en.1)
 | .ok cs=>(zvg (zuJ (zQ ks) a cs),(yD (zuJ (zQ ks) a cs)).1,0)
noncomputable def zvQ (x:AV × zcy × Int):TV:=.tup [(zwl,x.1),(qD Tryz.prog 41,zI x.2.1),(.int .i64,.i .i64 x.2.2)]
theorem zvT {ks:List KnV} (hd:∀k∈ks,k.data.length≤65536):Ans (zQ ks):=fun p k hk=>⟨(KP hk).2,hd k (KP hk).1⟩
theorem zwE {a:xW} (ha:zky a) {cs:List CmdV} (hcs:j7 a.tool=.ok cs) {ks:List KnV} (hd:∀k∈ks,k.data.length≤65536) :
  goF (zQ ks) 600 (ZR a.env a.outs (jI a) cs)=some (zuJ (zQ ks) a cs)∧((zuJ (zQ ks) a cs).over=true∨zQ ks (zuJ (zQ ks) a cs).asks=none)∧Z4 a.env cs a.outs (jI a) [] (ZR a.env a.outs (jI a) cs):=by
 obtain⟨b',g1,g2,g3⟩:=zw2 hcs (by have:=ha.be;omega:a.env.length≤1000000000) ha.bev (outs:=a.outs) (may:=jI a) (zvT hd)
 have:zuJ (zQ ks) a cs=b':=by unfold zuJ;rw[g1];rfl
 rw[this]
 exact⟨g1,g3,g2⟩
set_option maxHeartbeats 16000000 in
theorem zwD (a:xW) (hab:zky a) (ks:List KnV) (hn:ks.length≤1000000000) (hd:∀k∈ks,k.data.length≤65536) :
  PC Tryz.prog 75 [.av UI (kT a),.av (.slice 57) (zL ks)] (zvQ (zvY a ks)):=by
 have hae:=YB a
 have hef:=YO ks
 have hfb:=zvV ks
 have hlo:=zwk ks hn hd
 cases hcv:j7 a.tool with
 | error en =>
  obtain⟨e,n⟩:=en
  have hv:zvY a ks=(zv5,zvh,e):=by unfold zvY;rw[hcv]
  have hne:¬e=0:=by rcases Z8 hcv with h|h<;>omega
  have hbe:=zvu a hab false hcv
  rw[hv]
  obtain⟨A,hA⟩:∃A,A=kT a:=⟨_,rfl⟩
  rw[←hA]at hbe hae ⊢
  refine PC.of <| q7.of_vc laid mixed Tryz.func75 rfl zwh (by kernel_rfl) (by simp[Tryz.ntmps75]) fun imm0 w0=>?_
  (simp (maxSteps:=2000000) (disch:=first|omega|assumption) [zz,-List.reduceReplicate])
  intro bf
  refine qL hlo rfl rfl (by simp) (by simp[qS,TV.er,AV.er,hef]) ?_
  (simp (maxSteps:=2000000) (disch:=first|omega|assumption) [zz,-List.reduceReplicate])
  refine qL hbe rfl rfl (by simp) (by simp[qS,TV.er,AV.er,hae]) ?_
  (simp (maxSteps:=2000000) (disch:=first|omega|assumption) [zz,-List.reduceReplicate,hne,zvQ,zv5,zvh,zI,zU,qF,Tryz.f75])
 | ok cs =>
  obtain⟨hgo,hov,hbk⟩:=zwE hab hcv hd
  obtain⟨b',hb'⟩:∃b',b'=zuJ (zQ ks) a cs:=⟨_,rfl⟩
  rw[←hb']at hgo hov
  have hv:zvY a ks=(zvg b',(yD b').1,0):=by unfold zvY;rw[hcv,hb']
  have hbe:=zvA a hab hcv
  rw[hv]
  obtain⟨A,hA⟩:∃A,A=kT a:=⟨_,rfl⟩
  rw[←hA]at hbe hae ⊢
  refine PC.of <| q7.of_vc laid mixed Tryz.func75 rfl zwh (by kernel_rfl) (by simp[Tryz.ntmps75]) fun imm0 w0=>?_
  (simp (maxSteps:=2000000) (disch:=first|omega|assumption) [zz,-List.reduceReplicate])
  intro bf
  refine qL hlo rfl rfl (by simp) (by simp[qS,TV.er,AV.er,hef]) ?_
  (simp (maxSteps:=2000000) (disch:=first|omega|assumption) [zz,-List.reduceReplicate])
  refine qE (R:=fun r H'=>∃B,r=.tup [(.ptr,.ptr B KD []),(.int .i64,.i .i64 0)]∧jJ B (ZR a.env a.outs (jI a) cs) H') [] [(bf,zuQ ks)] (by simp[zuQ]) rfl (by simp[qQ]) (by simp) ?_ ?_
  ·simpa[TV.er,AV.er,hae,q8.er_nil]using hbe
  rintro r H ⟨B,rfl,hH⟩ _
  have hHe:=hH.er
  refine⟨H++[(bf,zuQ ks)],HSub.refl _,?_⟩
  (simp (maxSteps:=2000000) (disch:=first|omega|assumption) [zz,-List.reduceReplicate])
  have hans:zwT (.fn 135 [.ptr bf (.slice 57) []]) [(bf,zuQ ks)] (zQ ks):=⟨by simp[q8.er_cons,hfb],rfl,fun p hp=>⟨_,rfl,by simp,by simpa[TV.er,AV.er]using zwA bf ks hn p⟩⟩
  refine qE (R:=fun y H'=>y=zv9 b'∧(∃H2,H'=H2++[(bf,zuQ ks)]∧jJ B b' H2)∧∃kn',Z4 a.env cs a.outs (jI a) kn' b') (H++[(bf,zuQ ks)]) [] (by simp) rfl (by simp[qQ]) (by simp) ?_ ?_
  ·rw[q8.er_app,hHe,q8.er_cons,hfb,q8.er_nil]
   have:=zvM B _ _ _ (zvT hd) hans hH hbk hab.bo hgo
   simpa[TV.er,AV.er]using this
  rintro y H1 ⟨rfl,_,_⟩ _
  refine⟨H1,by simpa using HSub.refl _,?_⟩
  (simp (maxSteps:=2000000) (disch:=first|omega|assumption) [zz,-List.reduceReplicate,zv9,zvQ])
  (repeat with_reducible refine om ?_)
  have hwe:(zvg b').er=zvg b':=by
   unfold zvg
   split<;>simp[zv5,zvN,AV.er,AV.ers]
  (simp (maxSteps:=2000000) (disch:=first|omega|assumption) [zz,-List.reduceReplicate,hwe,zvQ,Tryz.f75])
end Go.Proofs.YtidhkfcjichiiaaGreatDoor
end
