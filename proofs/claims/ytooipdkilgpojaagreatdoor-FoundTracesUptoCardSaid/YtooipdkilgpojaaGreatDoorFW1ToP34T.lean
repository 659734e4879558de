/- An action over files: the program. No condition beyond each theorem's own. -/
import Derived.Test.YtooipdkilgpojaaGreatDoorFT0ToFW0
import Derived.Test.YtooipdkilgpojaaGreatDoorAL0ToBR1
import Derived.Test.YtooipdkilgpojaaGreatDoorRW2ToS1
import Derived.Test.YtooipdkilgpojaaGreatDoorP10ToK6
import Derived.Test.YtooipdkilgpojaaGreatDoorK20ToRW0
import Derived.Test.YtooipdkilgpojaaGreatDoorB0
set_option linter.unusedSimpArgs false
set_option linter.unusedVariables false
set_option linter.unusedSectionVars false
section
set_option maxRecDepth 100000
namespace Go.Proofs.YtooipdkilgpojaaGreatDoor
open Go Go.Ab
open Classical
variable [Sel] [SelPow] [SelMax]
abbrev zwl:TyD:=.struct [3,9,3]
def zv5:AV:=.agg [.i .i64 0,.s [],.i .i64 0]
def zvN (p:Txt):AV:=.agg [.i .i64 1,.s p,.i .i64 0]
noncomputable def zvg (b:BoxV):AV:=if b.over=true then zv5 else zvN b.asks
noncomputable def zv9 (b:BoxV):TV:=.tup [(zwl,zvg b),(qD Tryz.prog 41,zI (yD b).1)]
def zwT (v:AV) (Hs:q8) (f:Txt→Option KnV):Prop:=Hs.er=Hs∧v.er=v∧∀p:Txt,p.length≤2000→VC1 v [.av .str (.s p)] Hs fun r H'=>r=.tup [(KnT,zH ((f p).getD ⟨[],false,[]⟩)),(.bool,.b (f p).isSome)]∧H'=Hs
set_option maxHeartbeats 16000000 in
theorem zvM (B:Nat) (v:AV) (Hs:q8) (f:Txt→Option KnV) (hf:Ans f) (hv:zwT v Hs f) {env:List (Txt × Txt)} {cs:List CmdV} {outs:List Txt} {may:Txt→Bool} {kn:List KnV} {b b':BoxV} {H:q8} {n:Nat}
  (hH:jJ B b H) (hk:Z4 env cs outs may kn b) (ho:outs.length≤1000000) (hgo:goF f n b=some b') :
  q7 Tryz.prog 55 [.av .ptr (.ptr B KD []),.av .func v] (H++Hs) fun y H'=>y=zv9 b'∧(∃H2,H'=H2++Hs∧jJ B b' H2)∧∃kn',Z4 env cs outs may kn' b':=by
 obtain⟨hHs,hve,hvf⟩:=hv
 refine q7.of_vc laid mixed Tryz.func55 rfl cf0 (by kernel_rfl) (by simp[Tryz.ntmps55]) fun imm0 w0=>?_
 (simp (maxSteps:=2000000) (disch:=first|omega|assumption) [zz,-List.reduceReplicate])
 refine AT.loop' (α:=Nat × BoxV × List KnV × q8) (fun x=>St.of [(0,.av .ptr (.ptr B KD [])),(1,.av .func v),(4,.loc 4 []),(5,.loc 5 [])] [(4,(zwl,zv5)),(5,(qD Tryz.prog 41,.agg [.i .i64 0,.i .i64 0,.sl .full [],.sl .full []]))] (fun _=>0) (x.2.2.2++Hs))
  (fun x=>goF f x.1 x.2.1=some b'∧Z4 env cs outs may x.2.2.1 x.2.1∧jJ B x.2.1 x.2.2.2) (fun x=>x.1) (n,b,kn,H) ?_ ?_ ?_
 ·refine Le.of ?_ ?_ ?_ ?_ ?_<;>simp[qU,qG,zX,zv5]<;>try omega
 ·exact⟨hgo,hk,hH⟩
 clear hgo hk hH kn b
 rintro⟨i,b,kn,H⟩ ⟨hgo,hk,hH⟩ KL hN hE
 simp only at hgo hk hH hN
 cases i with
 | zero=>cases hgo
 | succ i =>
 rw[goF]at hgo
 have hHe:=hH.er
 refine qM (cf:=cf0) laid mixed _ _ _ (by kernel_rfl) ?_
 (simp (maxSteps:=2000000) (disch:=first|omega|assumption) [zz,-List.reduceReplicate,zv5])
 refine qE (R:=fun y H'=>y=.tup [(.str,.s (if b.over=true then [] else b.asks)),(.bool,.b (!b.over))]∧jJ B b H') H Hs (List.Perm.refl _) rfl (by simp[qQ]) (by simp) ?_ ?_
 ·rw[hHe];simpa[TV.er,AV.er]using zci B hH
 rintro y H1 ⟨rfl,hH1⟩ _
 clear hH hHe
 have hHe1:=hH1.er
 refine⟨H1++Hs,HSub.refl _,?_⟩
 by_cases hov:b.over=true
 ·rw[if_pos hov]at hgo
  have hb:=Option.some.inj hgo
  subst hb
  have h2:=uJ hov
  have hers:(zI (yD b).1).er=zI (yD b).1:=KO _
  (simp (maxSteps:=2000000) (disch:=first|omega|assumption) [zz,-List.reduceReplicate,hov])
  refine qE (R:=fun y H'=>y=.tup [(qD Tryz.prog 41,zI (yD b).1),(.bool,.b (yD b).2)]∧jJ B b H') H1 Hs (List.Perm.refl _) rfl (by simp[qQ]) (by simp) ?_ ?_
  ·rw[hHe1];simpa[TV.er,AV.er]using QN B hH1 (by have:=hk.rl;omega) (hk.wl ho)
  rintro y H2 ⟨rfl,hH2⟩ _
  have hHe2:=hH2.er
  refine⟨H2++Hs,HSub.refl _,?_⟩
  (simp (maxSteps:=2000000) (disch:=first|omega|assumption) [zz,-List.reduceReplicate])
  (repeat with_reducible refine om ?_)
  refine hE _ _ (by simp) ?_
  (simp (maxSteps:=2000000) (disch:=first|omega|assumption) [zz,-List.reduceReplicate,q8.er_app,hHe2,hHs,zv9,zvg,zv5,hov,hers,Tryz.f55])
  exact⟨hH2,kn,hk⟩
 ·rw[if_neg hov]at hgo
  have hov':b.over=false:=by simpa using hov
  have hw:=KN hov'
  have hal:=hk.askl hov'
  have hvc:=hvf b.asks (by omega)
  (simp (maxSteps:=2000000) (disch:=first|omega|assumption) [zz,-List.reduceReplicate,hov'])
  refine ZG (R:=fun r H'=>r=.tup [(KnT,zH ((f b.asks).getD ⟨[],false,[]⟩)),(.bool,.b (f b.asks).isSome)]∧H'=Hs) Hs H1 List.perm_append_comm hHs (by simp[qQ]) hvc ?_
  rintro r' H' ⟨rfl,rfl⟩ _
  refine⟨H1++H',HSub.of_perm List.perm_append_comm,?_⟩
  cases hfk:f b.asks with
  | none =>
   rw[hfk]at hgo
   have hb:=Option.some.inj hgo
   subst hb
   (simp (maxSteps:=2000000) (disch:=first|omega|assumption) [zz,-List.reduceReplicate,zH])
   refine hE _ _ (by simp) ?_
   (simp (maxSteps:=2000000) (disch:=first|omega|assumption) [zz,-List.reduceReplicate,q8.er_app,hHe1,hHs,zv9,zvg,zvN,hov',hw,zI,zU,qF,Tryz.f55])
   exact⟨hH1,kn,hk⟩
  | some k =>
   rw[hfk]at hgo
   simp only at hgo
   obtain⟨hk1,hk2⟩:=hf _ _ hfk
   obtain⟨hgv,hk3⟩:=hk.give k hov' hk1 (fun _=>hk2)
   have hbg:=dW B hH1 hk.g k (by omega) (by have:=hk.rl;omega) (fun h1 h2 h3=>hk.can k h1 h2 (fun _=>hk2))
   rw[hgv]at hbg
   have hke:(zH k).er=zH k:=(vU k).1
   (simp (maxSteps:=2000000) (disch:=first|omega|assumption) [zz,-List.reduceReplicate])
   refine qE (R:=fun y H'=>y=.av (.int .i64) (.i .i64 0)∧jJ B (kB k b).2 H') H1 H' (List.Perm.refl _) rfl (by simp[qQ]) (by simp) ?_ ?_
   ·rw[hHe1]
    simpa[TV.er,AV.er,hke]using hbg
   rintro y H4 ⟨rfl,hH4⟩ _
   refine⟨H4++H',HSub.refl _,?_⟩
   (simp (maxSteps:=2000000) (disch:=first|omega|assumption) [zz,-List.reduceReplicate])
   refine hN _ (i,(kB k b).2,kn++[k],H4) ?_ ⟨hgo,hk3,hH4⟩ (by simp only;omega)
   refine Le.of ?_ ?_ ?_ ?_ ?_<;>simp[qU,qG,zX,zv5]<;>try omega
theorem zvu (a:xW) (hab:zky a) (lg:Bool) {e:Int} {n:Nat} (hcv:j7 a.tool=.error (e,n)):PC Tryz.prog 54 [.av UI (kT a),.av .bool (.b lg)] (.tup [(.ptr,.nilptr),(.int .i64,.i .i64 e)]):=by
 have hae:=YB a
 have hnew:=DZ a hab
 unfold zes at hnew
 rw[hcv]at hnew
 have hne:¬e=0:=by rcases Z8 hcv with h|h<;>omega
 obtain⟨A,hA⟩:∃A,A=kT a:=⟨_,rfl⟩
 rw[←hA]at hnew hae ⊢
 refine PC.of <| q7.of_vc laid mixed Tryz.func54 rfl cf0 (by kernel_rfl) (by simp[Tryz.ntmps54]) fun imm0 w0=>?_
 (simp (maxSteps:=2000000) (disch:=first|omega|assumption) [zz,-List.reduceReplicate])
 refine jP (R:=fun r H'=>r=.tup [(.ptr,.nilptr),(.int .i64,.i .i64 e)]∧H'=[]) rfl (by simp[qQ]) (by simp) ?_ ?_
 ·simpa[TV.er,hae,q8.er_nil]using hnew
 rintro r H' ⟨rfl,rfl⟩
 (simp (maxSteps:=2000000) (disch:=first|omega|assumption) [zz,-List.reduceReplicate,hne,Tryz.f54])
theorem zvL (a:xW) (hab:zky a) {cs:List CmdV} (hcv:j7 a.tool=.ok cs):PC Tryz.prog 54 [.av UI (kT a),.av .bool (.b true)] (.tup [(.ptr,.nilptr),(.int .i64,.i .i64 6)]):=by
 have hae:=YB a
 have hnew:=DZ a hab
 unfold zes at hnew
 rw[hcv]at hnew
 obtain⟨A,hA⟩:∃A,A=kT a:=⟨_,rfl⟩
 rw[←hA]at hnew hae ⊢
 refine PC.of <| q7.of_vc laid mixed Tryz.func54 rfl cf0 (by kernel_rfl) (by simp[Tryz.ntmps54]) fun imm0 w0=>?_
 (simp (maxSteps:=2000000) (disch:=first|omega|assumption) [zz,-List.reduceReplicate])
 refine jP (R:=fun r H'=>∃B,r=.tup [(.ptr,.ptr B KD []),(.int .i64,.i .i64 0)]∧jJ B (ZR a.env a.outs (jI a) cs) H') rfl (by simp[qQ]) (by simp) ?_ ?_
 ·simpa[TV.er,hae,q8.er_nil]using hnew
 rintro r H' ⟨B,rfl,hH⟩
 (simp (maxSteps:=2000000) (disch:=first|omega|assumption) [zz,-List.reduceReplicate,Tryz.f54])
theorem zvA (a:xW) (hab:zky a) {cs:List CmdV} (hcv:j7 a.tool=.ok cs):q7 Tryz.prog 54 [.av UI (kT a),.av .bool (.b false)] [] fun r H'=>∃B,r=.tup [(.ptr,.ptr B KD []),(.int .i64,.i .i64 0)]∧jJ B (ZR a.env a.outs (jI a) cs) H':=by
 have hae:=YB a
 have hnew:=DZ a hab
 unfold zes at hnew
 rw[hcv]at hnew
 obtain⟨A,hA⟩:∃A,A=kT a:=⟨_,rfl⟩
 rw[←hA]at hnew hae ⊢
 refine q7.of_vc laid mixed Tryz.func54 rfl cf0 (by kernel_rfl) (by simp[Tryz.ntmps54]) fun imm0 w0=>?_
 (simp (maxSteps:=2000000) (disch:=first|omega|assumption) [zz,-List.reduceReplicate])
 refine jP (R:=fun r H'=>∃B,r=.tup [(.ptr,.ptr B KD []),(.int .i64,.i .i64 0)]∧jJ B (ZR a.env a.outs (jI a) cs) H') rfl (by simp[qQ]) (by simp) ?_ ?_
 ·simpa[TV.er,hae,q8.er_nil]using hnew
 rintro r H ⟨B,rfl,hH⟩
 have hHe:=hH.er
 (simp (maxSteps:=2000000) (disch:=first|omega|assumption) [zz,-List.reduceReplicate,hHe,Tryz.f54])
 exact hH
abbrev zwh:Cfg:=⟨fun n=>n==3,fun _=>false⟩
set_option maxHeartbeats 16000000 in
theorem zvG (a:xW) (hab:zky a) (fs:List U1) (hn:fs.length≤1000000000) :
  PC Tryz.prog 22 [.av UI (kT a),.av (.slice 63) (zU fs)] (.tup [(qD Tryz.prog 41,zI (zuI a fs).1),(.int .i64,.i .i64 (zuI a fs).2)]):=by
 have hae:=YB a
 have hef:=zdW fs
 have hfb:=zvR fs
 cases hcv:j7 a.tool with
 | error en =>
  obtain⟨e,n⟩:=en
  have hv:zuI a fs=(zvh,e):=by unfold zuI;rw[hcv]
  have hne:¬e=0:=by rcases Z8 hcv with h|h<;>omega
  have hbe:=zvu a hab (zuK fs) hcv
  rw[hv]
  obtain⟨A,hA⟩:∃A,A=kT a:=⟨_,rfl⟩
  rw[←hA]at hbe hae ⊢
  refine PC.of <| q7.of_vc laid mixed Tryz.func22 rfl zwh (by kernel_rfl) (by simp[Tryz.ntmps22]) fun imm0 w0=>?_
  (simp (maxSteps:=2000000) (disch:=first|omega|assumption) [zz,-List.reduceReplicate])
  intro bf
  refine qL (zvK fs hn) rfl rfl (by simp) (by simp[qS,TV.er,AV.er,hef]) ?_
  (simp (maxSteps:=2000000) (disch:=first|omega|assumption) [zz,-List.reduceReplicate])
  refine qL hbe rfl rfl (by simp) (by simp[qS,TV.er,AV.er,hae]) ?_
  (simp (maxSteps:=2000000) (disch:=first|omega|assumption) [zz,-List.reduceReplicate,hne,zvh,zI,zU,qF,Tryz.f22])
 | ok cs =>
  cases hl:zuK fs with
  | true =>
   have hv:zuI a fs=(zvh,6):=by unfold zuI;rw[hcv];simp[hl]
   have hlo:=zvK fs hn
   have hbe:=zvL a hab hcv
   rw[hl]at hlo
   rw[hv]
   obtain⟨A,hA⟩:∃A,A=kT a:=⟨_,rfl⟩
   rw[←hA]at hbe hae ⊢
   refine PC.of <| q7.of_vc laid mixed Tryz.func22 rfl zwh (by kernel_rfl) (by simp[Tryz.ntmps22]) fun imm0 w0=>?_
   (simp (maxSteps:=2000000) (disch:=first|omega|assumption) [zz,-List.reduceReplicate])
   intro bf
   refine qL hlo rfl rfl (by simp) (by simp[qS,TV.er,AV.er,hef]) ?_
   (simp (maxSteps:=2000000) (disch:=first|omega|assumption) [zz,-List.reduceReplicate])
   refine qL hbe rfl rfl (by simp) (by simp[qS,TV.er,AV.er,hae]) ?_
   (simp (maxSteps:=2000000) (disch:=first|omega|assumption) [zz,-List.reduceReplicate,zvh,zI,zU,qF,Tryz.f22])
  | false =>
   obtain⟨hgo,hov,hbk⟩:=zv2 hab hcv hl
   obtain⟨b',hb'⟩:∃b',b'=zuJ (zuM fs) a cs:=⟨_,rfl⟩
   rw[←hb']at hgo hov
   have hv:zuI a fs=((yD b').1,0):=by unfold zuI;rw[hcv];simp[hl,hb']
   have hlo:=zvK fs hn
   have hbe:=zvA a hab hcv
   rw[hl]at hlo
   rw[hv]
   obtain⟨A,hA⟩:∃A,A=kT a:=⟨_,rfl⟩
   rw[←hA]at hbe hae ⊢
   refine PC.of <| q7.of_vc laid mixed Tryz.func22 rfl zwh (by kernel_rfl) (by simp[Tryz.ntmps22]) fun imm0 w0=>?_
   (simp (maxSteps:=2000000) (disch:=first|omega|assumption) [zz,-List.reduceReplicate])
   intro bf
   refine qL hlo rfl rfl (by simp) (by simp[qS,TV.er,AV.er,hef]) ?_
   (simp (maxSteps:=2000000) (disch:=first|omega|assumption) [zz,-List.reduceReplicate])
   refine qE (R:=fun r H'=>∃B,r=.tup [(.ptr,.ptr B KD []),(.int .i64,.i .i64 0)]∧jJ B (ZR a.env a.outs (jI a) cs) H') [] [(bf,zuP fs)] (by simp[zuP]) rfl (by simp[qQ]) (by simp) ?_ ?_
   ·simpa[TV.er,AV.er,hae,q8.er_nil]using hbe
   rintro r H ⟨B,rfl,hH⟩ _
   have hHe:=hH.er
   refine⟨H++[(bf,zuP fs)],HSub.refl _,?_⟩
   (simp (maxSteps:=2000000) (disch:=first|omega|assumption) [zz,-List.reduceReplicate])
   have hans:zwT (.fn 56 [.ptr bf (.slice 63) []]) [(bf,zuP fs)] (zuM fs):=⟨by simp[q8.er_cons,hfb],rfl,fun p hp=>⟨_,rfl,by simp,by simpa[TV.er,AV.er,zuM]using zwu bf fs hn p⟩⟩
   refine qE (R:=fun y H'=>y=zv9 b'∧(∃H2,H'=H2++[(bf,zuP fs)]∧jJ B b' H2)∧∃kn',Z4 a.env cs a.outs (jI a) kn' b') (H++[(bf,zuP fs)]) [] (by simp) rfl (by simp[qQ]) (by simp) ?_ ?_
   ·rw[q8.er_app,hHe,q8.er_cons,hfb,q8.er_nil]
    have:=zvM B _ _ _ (zuU hl) hans hH hbk hab.bo hgo
    simpa[TV.er,AV.er]using this
   rintro y H1 ⟨rfl,_,_⟩ _
   refine⟨H1,by simpa using HSub.refl _,?_⟩
   (simp (maxSteps:=2000000) (disch:=first|omega|assumption) [zz,-List.reduceReplicate,zv9,Tryz.f22])
@[simp] theorem zEo:qZ Tryz.prog 51=true:=by kernel_rfl
@[simp] theorem zEH:z8 Tryz.prog (.func 51)=false:=q9 zEo
@[simp] theorem zoG:qZ Tryz.prog 97=true:=by kernel_rfl
@[simp] theorem zsn:z8 Tryz.prog (.func 97)=false:=q9 zoG
@[simp] theorem znK:qZ Tryz.prog 98=true:=by kernel_rfl
@[simp] theorem zrR:z8 Tryz.prog (.func 98)=false:=q9 znK
@[simp] theorem zlW:qZ Tryz.prog 100=true:=by kernel_rfl
@[simp] theorem zqZ:z8 Tryz.prog (.func 100)=false:=q9 zlW
@[simp] theorem znC:qZ Tryz.prog 96=true:=by kernel_rfl
@[simp] theorem zrB:z8 Tryz.prog (.func 96)=false:=q9 znC
@[simp] theorem zoa:qZ Tryz.prog 99=true:=by kernel_rfl
@[simp] theorem zrC:z8 Tryz.prog (.func 99)=false:=q9 zoa
def zvX (f:AV) (Hs:q8) (g:KnV→Bool) (ts:List KnV):Prop:=Hs.er=Hs∧f.er=f∧∀x∈ts,VC1 f [.av KnT (zH x)] Hs fun r H'=>r=.av .bool (.b (g x))∧H'=Hs
set_option maxHeartbeats 4000000 in
theorem zw4 (g:KnV→Bool) (f:AV) (Hs:q8) (ts:List KnV) (hf:zvX f Hs g ts) (hn:ts.length≤1000000000) :
  q7 Tryz.prog 99 [.av (.slice 57) (zL ts),.av .func f] Hs
   fun r H'=>r=.av (.int .i64) (.i .i64 (J7 g ts))∧H'=Hs:=by
 obtain⟨ho,hfe,hff⟩:=hf
 refine q7.of_vc laid mixed Tryz.func99 rfl cf0 (by kernel_rfl) (by simp[Tryz.ntmps99]) fun imm0 w0=>?_
 (simp (maxSteps:=2000000) (disch:=first|omega|assumption) [zz,-List.reduceReplicate,zL])
 refine AT.loop' (α:=Nat) (fun k=>St.of [(0,.av (.slice 57) (.sl .no (ts.map zH))),(1,.av .func f),(7,.av (.int .i64) (.i .i64 ts.length)),(8,.av (.int .i64) (.i .i64 k))] [] (fun _=>0) Hs)
  (fun k=>k≤ts.length∧∀x∈ts.take k,g x=false) (fun k=>ts.length-k) 0 ?_ ?_ ?_
 ·refine Le.of ?_ ?_ ?_ ?_ ?_<;>simp[qU,qG]
 ·simp
 rintro k ⟨hk',hpk⟩ KL hN hE
 refine qM (cf:=cf0) laid mixed _ _ _ (by kernel_rfl) ?_
 by_cases hlt:k<ts.length
 ·have hlt':(k:Int)<ts.length:=by omega
  have hg:=KB zH ts k hlt
  (simp (maxSteps:=2000000) (disch:=first|omega|assumption) [zz,-List.reduceReplicate,hlt',hg])
  refine ZG (R:=fun r' H'=>r'=.av .bool (.b (g ts[k]))∧H'=Hs) Hs [] (by simp) ho (by simp[qQ]) (hff _ (List.getElem_mem hlt)) ?_
  rintro r' H' ⟨rfl,rfl⟩ _
  refine⟨H',by simpa using HSub.refl _,?_⟩
  by_cases hp:g ts[k]=true
  ·(simp (maxSteps:=2000000) (disch:=first|omega|assumption) [zz,-List.reduceReplicate,hp])
   refine hE _ _ (by simp) ?_
   (simp (maxSteps:=2000000) (disch:=first|omega|assumption) [zz,-List.reduceReplicate,Tryz.f99,uL hlt hpk hp,ho])
  ·(simp (maxSteps:=2000000) (disch:=first|omega|assumption) [zz,-List.reduceReplicate,hp])
   refine hN _ (k+1) ?_ ⟨by omega,by rw[Z2 hlt];exact⟨hpk,by simpa using hp⟩⟩ (by omega)
   refine Le.of ?_ ?_ ?_ ?_ ?_<;>simp[qU,qG]
 ·have hlt':¬(k:Int)<ts.length:=by omega
  (simp (maxSteps:=2000000) (disch:=first|omega|assumption) [zz,-List.reduceReplicate,hlt'])
  refine hE _ _ (by simp) ?_
  rw[List.take_of_length_le (by omega)]at hpk
  (simp (maxSteps:=2000000) (disch:=first|omega|assumption) [zz,-List.reduceReplicate,Tryz.f99,x9 hpk,ho])
theorem zwr (x:KnV) (h:x.data.length≤65536):PC Tryz.prog 97 [.av KnT (zH x)] (.av .bool (.b false)):=by
 refine PC.of <| q7.of_vc laid mixed Tryz.func97 rfl cf0 (by kernel_rfl) (by simp[Tryz.ntmps97]) fun imm0 w0=>?_
 (simp (maxSteps:=2000000) (disch:=first|omega|assumption) [zz,-List.reduceReplicate,zH])
 have h':¬(65536:Int)<x.data.length:=by omega
 cases hi:x.is
 ·(simp (maxSteps:=2000000) (disch:=first|omega|assumption) [zz,-List.reduceReplicate,hi,Tryz.f97])
 ·(simp (maxSteps:=2000000) (disch:=first|omega|assumption) [zz,-List.reduceReplicate,hi,h',Tryz.f97])
theorem zwk (ts:List KnV) (hn:ts.length≤1000000000) (hd:∀k∈ts,k.data.length≤65536):PC Tryz.prog 96 [.av (.slice 57) (zL ts),.av .func (.fn 97 [])] (.av .bool (.b false)):=by
 have hf:zvX (.fn 97 []) [] (fun _=>false) ts:=⟨rfl,rfl,fun x hx=>⟨[],rfl,by simp,by have h9:=zwr x (hd x hx);unfold PC at h9;simpa[TV.er,AV.er,(vU x).1]using h9⟩⟩
 have hef:=YO ts
 refine PC.of <| q7.of_vc laid mixed Tryz.func96 rfl cf0 (by kernel_rfl) (by simp[Tryz.ntmps96]) fun imm0 w0=>?_
 (simp (maxSteps:=2000000) (disch:=first|omega|assumption) [zz,-List.reduceReplicate])
 refine qE (R:=fun r' H'=>r'=.av (.int .i64) (.i .i64 (J7 (fun _:KnV=>false) ts))∧H'=[]) [] [] (by simp) rfl (by simp[qQ]) (by simp) ?_ ?_
 ·have:=zw4 _ _ _ ts hf hn
  simpa[TV.er,AV.er,hef]using this
 rintro r' H' ⟨rfl,rfl⟩ _
 refine⟨[],by simpa using HSub.refl _,?_⟩
 have he:J7 (fun _:KnV=>false) ts=-1:=x9 fun _ _=>rfl
 rw[he]
 (simp (maxSteps:=2000000) (disch:=first|omega|assumption) [zz,-List.reduceReplicate,Tryz.f96])
theorem zwn (b:Nat) (p:Txt) (x:KnV):q7 Tryz.prog 100 [.av KnT (zH x),.av .ptr (.ptr b .str [])] [(b,zF p)] fun r H'=>r=.av .bool (.b (decide (x.path=p)))∧H'=[(b,zF p)]:=by
 refine q7.of_vc laid mixed Tryz.func100 rfl cf0 (by kernel_rfl) (by simp[Tryz.ntmps100]) fun imm0 w0=>?_
 (simp (maxSteps:=2000000) (disch:=first|omega|assumption) [zz,-List.reduceReplicate,zF,zH])
 (simp (maxSteps:=2000000) (disch:=first|omega|assumption) [zz,-List.reduceReplicate,Tryz.f100])
noncomputable def zuQ (ks:List KnV):HObj:=.var (.slice 57) (zL ks)
theorem zvV (ks:List KnV):(zuQ ks).er=zuQ ks:=by simp[zuQ,HObj.er_var,AV.erk,zL,AV.ers_eq,Function.comp_def,vU]
set_option maxHeartbeats 4000000 in
theorem zwA (bf:Nat) (ks:List KnV) (hn:ks.length≤1000000000) (p:Txt) :
  q7 Tryz.prog 98 [.av .str (.s p),.av .ptr (.ptr bf (.slice 57) [])] [(bf,zuQ ks)] fun r H'=>r=.tup [(KnT,zH ((zQ ks p).getD ⟨[],false,[]⟩)),(.bool,.b (zQ ks p).isSome)]∧H'=[(bf,zuQ ks)]:=by
 have hef:=YO ks
 have hbe:=zvV ks
 refine q7.sub (R:=fun r H'=>r=.tup [(KnT,zH ((zQ ks p).getD ⟨[],false,[]⟩)),(.bool,.b (zQ ks p).isSome)]∧∃H2,Ab.HSub H2 H'∧H2=[(bf,zuQ ks)]) ?_ fun y H' ⟨h1,H2,h2,h3⟩ _=>⟨H2,h2,h1,h3⟩
 refine q7.of_vc laid mixed Tryz.func98 rfl zxa (by kernel_rfl) (by simp[Tryz.ntmps98]) fun imm0 w0=>?_
 (simp (maxSteps:=2000000) (disch:=first|omega|assumption) [zz,-List.reduceReplicate])
 intro b m1
 have m1':¬bf=b:=fun e=>m1 e.symm
 rw[show zuQ ks=.var (.slice 57) (zL ks) from rfl]at hbe ⊢
 (simp (maxSteps:=2000000) (disch:=first|omega|assumption) [zz,-List.reduceReplicate,m1,m1'])
 have hf:zvX (.fn 100 [.ptr b .str []]) [(b,zF p)] (fun x=>decide (x.path=p)) ks:=⟨rfl,rfl,fun x hx=>⟨_,rfl,by simp,by simpa[TV.er,AV.er,(vU x).1]using zwn b p x⟩⟩
 refine qE (R:=fun r' H'=>r'=.av (.int .i64) (.i .i64 (J7 (fun x:KnV=>decide (x.path=p)) ks))∧H'=[(b,zF p)]) [(b,zF p)] [(bf,zuQ ks)] (by simp[zuQ,zF]) rfl (by simp[qQ]) (by simp) ?_ ?_
 ·have:=zw4 _ _ _ ks hf hn
  simpa[TV.er,AV.er,hef,q8.er_cons,zF,HObj.er_var,AV.erk]using this
 rintro r' H' ⟨rfl,rfl⟩ _
 refine⟨_,HSub.refl _,?_⟩
 rcases ze8 (fun x:KnV=>decide (x.path=p)) ks with⟨he,hf⟩|⟨i,hi,he,hf⟩
 ·have ht:zQ ks p=none:=hf
  rw[he,ht]
  (simp (maxSteps:=2000000) (disch:=first|omega|assumption) [zz,-List.reduceReplicate,zF,zuQ,m1,m1',hbe,zH,Tryz.f98])
  exact HSub.of_sub ((List.Sublist.refl _).cons _)
 ·have ht:zQ ks p=some ks[i]:=hf
  have hg:=pZ ks i hi
  have hi':(i:Int)<ks.length:=by omega
  have hi0:¬(i:Int)<0:=by omega
  have hke:(zH ks[i]).er=zH ks[i]:=(vU _).1
  have hee:AV.ers (ks.map zH)=ks.map zH:=by simp[AV.ers_eq,Function.comp_def,vU]
  rw[he,ht]
  (simp (maxSteps:=2000000) (disch:=first|omega|assumption) [zz,-List.reduceReplicate,zF,zuQ,m1,m1',hi',hi0,zL,hg])
  (simp (maxSteps:=2000000) (disch:=first|omega|assumption) [zz,-List.reduceReplicate,hee,hke,Tryz.f98])
  exact HSub.of_sub ((List.Sublist.refl _).cons _)
noncomputable def zvY (a:xW) (ks:List KnV):AV × zcy × Int:=match j7 a.tool with
 | .error en=>(zv5,zvh,en.1)
 | .ok cs=>(zvg (zuJ (zQ ks) a cs),(yD (zuJ (zQ ks) a cs)).1,0)
noncomputable def zvQ (x:AV × zcy × Int):TV:=.tup [(zwl,x.1),(qD Tryz.prog 41,zI x.2.1),(.int .i64,.i .i64 x.2.2)]
theorem zvT {ks:List KnV} (hd:∀k∈ks,k.data.length≤65536):Ans (zQ ks):=fun p k hk=>⟨(KP hk).2,hd k (KP hk).1⟩
theorem zwE {a:xW} (ha:zky a) {cs:List CmdV} (hcs:j7 a.tool=.ok cs) {ks:List KnV} (hd:∀k∈ks,k.data.length≤65536) :
  goF (zQ ks) 600 (ZR a.env a.outs (jI a) cs)=some (zuJ (zQ ks) a cs)∧((zuJ (zQ ks) a cs).over=true∨zQ ks (zuJ (zQ ks) a cs).asks=none)∧Z4 a.env cs a.outs (jI a) [] (ZR a.env a.outs (jI a) cs):=by
 obtain⟨b',g1,g2,g3⟩:=zw2 hcs (by have:=ha.be;omega:a.env.length≤1000000000) ha.bev (outs:=a.outs) (may:=jI a) (zvT hd)
 have:zuJ (zQ ks) a cs=b':=by unfold zuJ;rw[g1];rfl
 rw[this]
 exact⟨g1,g3,g2⟩
set_option maxHeartbeats 16000000 in
theorem zwD (a:xW) (hab:zky a) (ks:List KnV) (hn:ks.length≤1000000000) (hd:∀k∈ks,k.data.length≤65536) :
  PC Tryz.prog 51 [.av UI (kT a),.av (.slice 57) (zL ks)] (zvQ (zvY a ks)):=by
 have hae:=YB a
 have hef:=YO ks
 have hfb:=zvV ks
 have hlo:=zwk ks hn hd
 cases hcv:j7 a.tool with
 | error en =>
  obtain⟨e,n⟩:=en
  have hv:zvY a ks=(zv5,zvh,e):=by unfold zvY;rw[hcv]
  have hne:¬e=0:=by rcases Z8 hcv with h|h<;>omega
  have hbe:=zvu a hab false hcv
  rw[hv]
  obtain⟨A,hA⟩:∃A,A=kT a:=⟨_,rfl⟩
  rw[←hA]at hbe hae ⊢
  refine PC.of <| q7.of_vc laid mixed Tryz.func51 rfl zwh (by kernel_rfl) (by simp[Tryz.ntmps51]) fun imm0 w0=>?_
  (simp (maxSteps:=2000000) (disch:=first|omega|assumption) [zz,-List.reduceReplicate])
  intro bf
  refine qL hlo rfl rfl (by simp) (by simp[qS,TV.er,AV.er,hef]) ?_
  (simp (maxSteps:=2000000) (disch:=first|omega|assumption) [zz,-List.reduceReplicate])
  refine qL hbe rfl rfl (by simp) (by simp[qS,TV.er,AV.er,hae]) ?_
  (simp (maxSteps:=2000000) (disch:=first|omega|assumption) [zz,-List.reduceReplicate,hne,zvQ,zv5,zvh,zI,zU,qF,Tryz.f51])
 | ok cs =>
  obtain⟨hgo,hov,hbk⟩:=zwE hab hcv hd
  obtain⟨b',hb'⟩:∃b',b'=zuJ (zQ ks) a cs:=⟨_,rfl⟩
  rw[←hb']at hgo hov
  have hv:zvY a ks=(zvg b',(yD b').1,0):=by unfold zvY;rw[hcv,hb']
  have hbe:=zvA a hab hcv
  rw[hv]
  obtain⟨A,hA⟩:∃A,A=kT a:=⟨_,rfl⟩
  rw[←hA]at hbe hae ⊢
  refine PC.of <| q7.of_vc laid mixed Tryz.func51 rfl zwh (by kernel_rfl) (by simp[Tryz.ntmps51]) fun imm0 w0=>?_
  (simp (maxSteps:=2000000) (disch:=first|omega|assumption) [zz,-List.reduceReplicate])
  intro bf
  refine qL hlo rfl rfl (by simp) (by simp[qS,TV.er,AV.er,hef]) ?_
  (simp (maxSteps:=2000000) (disch:=first|omega|assumption) [zz,-List.reduceReplicate])
  refine qE (R:=fun r H'=>∃B,r=.tup [(.ptr,.ptr B KD []),(.int .i64,.i .i64 0)]∧jJ B (ZR a.env a.outs (jI a) cs) H') [] [(bf,zuQ ks)] (by simp[zuQ]) rfl (by simp[qQ]) (by simp) ?_ ?_
  ·simpa[TV.er,AV.er,hae,q8.er_nil]using hbe
  rintro r H ⟨B,rfl,hH⟩ _
  have hHe:=hH.er
  refine⟨H++[(bf,zuQ ks)],HSub.refl _,?_⟩
  (simp (maxSteps:=2000000) (disch:=first|omega|assumption) [zz,-List.reduceReplicate])
  have hans:zwT (.fn 98 [.ptr bf (.slice 57) []]) [(bf,zuQ ks)] (zQ ks):=⟨by simp[q8.er_cons,hfb],rfl,fun p hp=>⟨_,rfl,by simp,by simpa[TV.er,AV.er]using zwA bf ks hn p⟩⟩
  refine qE (R:=fun y H'=>y=zv9 b'∧(∃H2,H'=H2++[(bf,zuQ ks)]∧jJ B b' H2)∧∃kn',Z4 a.env cs a.outs (jI a) kn' b') (H++[(bf,zuQ ks)]) [] (by simp) rfl (by simp[qQ]) (by simp) ?_ ?_
  ·rw[q8.er_app,hHe,q8.er_cons,hfb,q8.er_nil]
   have:=zvM B _ _ _ (zvT hd) hans hH hbk hab.bo hgo
   simpa[TV.er,AV.er]using this
  rintro y H1 ⟨rfl,_,_⟩ _
  refine⟨H1,by simpa using HSub.refl _,?_⟩
  (simp (maxSteps:=2000000) (disch:=first|omega|assumption) [zz,-List.reduceReplicate,zv9,zvQ])
  (repeat with_reducible refine om ?_)
  have hwe:(zvg b').er=zvg b':=by
   unfold zvg
   split<;>simp[zv5,zvN,AV.er,AV.ers]
  (simp (maxSteps:=2000000) (disch:=first|omega|assumption) [zz,-List.reduceReplicate,hwe,zvQ,Tryz.f51])
@[simp] theorem znN:qZ Tryz.prog 21=true:=by kernel_rfl
@[simp] theorem zs8:z8 Tryz.prog (.func 21)=false:=q9 znN
@[simp] theorem zop:qZ Tryz.prog 20=true:=by kernel_rfl
@[simp] theorem zs2:z8 Tryz.prog (.func 20)=false:=q9 zop
@[simp] theorem znI:qZ Tryz.prog 27=true:=by kernel_rfl
@[simp] theorem zrX:z8 Tryz.prog (.func 27)=false:=q9 znI
@[simp] theorem znB:qZ Tryz.prog 64=true:=by kernel_rfl
@[simp] theorem zsd:z8 Tryz.prog (.func 64)=false:=q9 znB
def fxTool:Txt:=[114,101,97,100,32,97,10,119,114,105,116,101,32,111,117,116,47,111]
def fxAct:xW:=⟨[],[],fxTool,[],[[97]],[],[QG]⟩
theorem zvr:z7 fxTool=z7 alTool:=by rw[PU];decide
theorem zx9:∃cs,j7 fxTool=.ok cs:=by
 obtain⟨cs,h⟩:=zpF
 have h1:¬(65536<fxTool.length∨400<(z7 fxTool).length):=by rw[zvr,PU];decide
 have h2:¬(65536<alTool.length∨400<(z7 alTool).length):=by rw[PU];decide
 unfold j7 at h ⊢
 rw[if_neg h1,zvr]
 rw[if_neg h2]at h
 exact⟨cs,h⟩
theorem zwZ:jI fxAct [97]=true:=by
 simp[jI,pJ,fxAct,QG]
theorem zwF:zky fxAct:=by
 refine⟨by decide,by decide,by simp[fxAct],by decide,by decide,?_,by decide⟩
 intro x hx
 simp[fxAct]at hx
theorem zxj:zvY fxAct []=(zvN [97],zvh,0):=by
 obtain⟨cs,hcs⟩:=zx9
 have h0:=zbj hcs (env:=[]) (by simp) (by simp) [QG] (jI fxAct)
 obtain⟨b,hb⟩:∃b,b=ZR [] [QG] (jI fxAct) cs:=⟨_,rfl⟩
 rw[←hb]at h0
 obtain⟨_,i,hi⟩:=XU hcs
 have hfl:zh5 [] cs (z7 fxTool):=⟨⟨i,hi⟩⟩
 obtain⟨f1,f2⟩:=zkA
 rw[←zvr]at f1 f2
 obtain⟨wr,hs⟩:=h0.s
 have hw:b.asks=[97]∧b.over=false:=by
  cases (hs.far hfl).1 with
  | waits h1 h2 h3 h4 h5 h6=>rw[f1]at h3;exact⟨h3,h4⟩
  | read h1 h2=>rw[f1]at h2;rw[zwZ]at h2;cases h2
  | ended h1=>rw[f1]at h1;cases h1
  | short h1=>rw[f1]at h1;cases h1
  | failed h1=>rw[f1]at h1;cases h1
  | wrote wr d h1=>rw[f2]at h1;simp at h1
 have ho:zuJ (zQ []) fxAct cs=b:=by
  have hg:goF (zQ []) 600 b=some b:=by
   rw[goF,if_neg (by rw[hw.2];decide)]
   rfl
  unfold zuJ
  rw[show ZR fxAct.env fxAct.outs (jI fxAct) cs=b from hb.symm,hg]
  rfl
 unfold zvY
 rw[show fxAct.tool=fxTool from rfl,hcs]
 simp only[ho]
 rw[KN hw.2]
 simp[zvg,hw,zvh]
set_option maxHeartbeats 16000000 in
theorem zvO:PC Tryz.prog 21 [] (.av .bool (.b true)):=by
 have ht:=zwD fxAct zwF [] (by simp) (by simp)
 rw[zxj]at ht
 have hte:fxTool=[114,101,97,100,32,97,10,119,114,105,116,101,32,111,117,116,47,111]:=rfl
 have hae:kT fxAct=.agg [.agg [.s [],.s []],.s fxTool,.sl .no [],.sl .no [.s [97]],.sl .no [],.sl .no [.s [111,117,116,47,111]]]:=rfl
 have hke:zL []=.sl .no []:=rfl
 rw[hae,hte,hke]at ht
 unfold zvQ at ht
 refine PC.of <| q7.of_vc laid mixed Tryz.func21 rfl cf0 (by kernel_rfl) (by simp[Tryz.ntmps21]) fun imm0 w0=>?_
 (simp (maxSteps:=2000000) (disch:=first|omega|assumption) [zz,-List.reduceReplicate])
 refine qL ht rfl rfl (by simp) (by simp[qS,TV.er,AV.er,AV.ers]) ?_
 (simp (maxSteps:=2000000) (disch:=first|omega|assumption) [zz,-List.reduceReplicate,zvN,zvh,zI,Tryz.f21])
def flW:List U1→Nat
 | []=>0
 | x::l=>x.path.length+x.data.length+1+flW l
theorem zvE:∀a b:List U1,flW (a++b)=flW a+flW b
 | [],b=>by simp[flW]
 | x::a,b=>by simp only[List.cons_append,flW,zvE a b];omega
theorem zwt (l:List U1) (k:Nat):flW (l.take k)≤flW l:=by
 conv=>rhs;rw[←List.take_append_drop k l,zvE]
 omega
theorem zvI:∀l:List U1,l.length≤flW l
 | []=>by simp[flW]
 | x::l=>by have:=zvI l;simp only[List.length_cons,flW];omega
theorem zw5 {l:List U1} {x:U1} (h:x∈l):x.path.length+x.data.length+1≤flW l:=by
 induction l with
 | nil=>cases h
 | cons y r ih =>
  simp only[flW]
  rcases List.mem_cons.1 h with rfl|h
  ·omega
  ·have:=ih h;omega
theorem zwo (l:List U1) (k:Nat) (h:k<l.length):flW (l.take (k+1))=flW (l.take k)+(l[k].path.length+l[k].data.length+1):=by
 rw[List.take_succ_eq_append_getElem h,zvE];simp only[flW];try omega
theorem zvj (l:List U1) (hl:flW l≤1000000000):PC Tryz.prog 20 [.av (.slice 63) (zU l)] (.av .bool (.b (decide (3000<flW l)))):=by
 have hlen:=zvI l
 refine PC.of <| q7.of_vc laid mixed Tryz.func20 rfl cf0 (by kernel_rfl) (by simp[Tryz.ntmps20]) fun imm0 w0=>?_
 (simp (maxSteps:=2000000) (disch:=first|omega|assumption) [zz,-List.reduceReplicate,zU])
 refine AT.loop' (α:=Nat) (fun k=>St.of [(0,.av (.slice 63) (zU l)),(6,.av (.int .i64) (.i .i64 l.length)),(7,.av (.int .i64) (.i .i64 k)),(3,.av (.int .i64) (.i .i64 (flW (l.take k))))] [] (fun _=>0) [])
  (fun k=>k≤l.length) (fun k=>l.length-k) 0 ?_ ?_ ?_
 ·refine Le.of ?_ ?_ ?_ ?_ ?_<;>simp[qU,qG,zU,flW]<;>try omega
 ·omega
 rintro k hk KL hN hE
 refine qM (cf:=cf0) laid mixed _ _ _ (by kernel_rfl) ?_
 by_cases hlt:k<l.length
 ·have hlt':(k:Int)<l.length:=by omega
  have hg:=KB jZ l k hlt
  have hs:=zwo l k hlt
  have ht:=zwt l (k+1)
  obtain⟨m,hm⟩:∃m,m=flW (l.take k):=⟨_,rfl⟩
  rw[←hm]at hs ⊢
  have hs':(flW (l.take (k+1)):Int)=m+l[k].path.length+l[k].data.length+1:=by omega
  (simp (maxSteps:=2000000) (disch:=first|omega|assumption) [zz,-List.reduceReplicate,hlt',hg,jZ,zU])
  (repeat with_reducible refine om ?_)
  refine hN _ (k+1) ?_ (by omega) (by omega)
  refine Le.of ?_ ?_ ?_ ?_ ?_<;>simp[qU,qG,zU,hs']<;>try omega
 ·have hkn:k=l.length:=by omega
  subst hkn
  have hlt':¬(l.length:Int)<l.length:=by omega
  (simp (maxSteps:=2000000) (disch:=first|omega|assumption) [zz,-List.reduceReplicate,hlt',zU])
  refine hE _ _ (by simp) ?_
  by_cases h5:3000<flW l
  ·have h5':(3000:Int)<flW l:=by omega
   (simp (maxSteps:=2000000) (disch:=first|omega|assumption) [zz,-List.reduceReplicate,h5,h5',Tryz.f20])
  ·have h5':¬(3000:Int)<flW l:=by omega
   (simp (maxSteps:=2000000) (disch:=first|omega|assumption) [zz,-List.reduceReplicate,h5,h5',Tryz.f20])
theorem zws {l:List U1} (h:flW l≤3000):zuK l=false∧l.length≤3000:=by
 have h1:=zvI l
 refine⟨?_,by omega⟩
 unfold zuK
 rw[List.any_eq_false]
 intro x hx
 have:=zw5 hx
 simp
 omega
end Go.Proofs.YtooipdkilgpojaaGreatDoor
end
section
set_option maxRecDepth 100000
namespace Go.Proofs.YtooipdkilgpojaaGreatDoor
open Go Go.Ab
open Classical
variable [Sel]
@[simp] theorem zkP:qZ Tryz.prog 101=true:=by kernel_rfl
@[simp] theorem zqa:z8 Tryz.prog (.func 101)=false:=q9 zkP
@[simp] theorem zlh:qZ Tryz.prog 102=true:=by kernel_rfl
@[simp] theorem zqR:z8 Tryz.prog (.func 102)=false:=q9 zlh
@[simp] theorem znF:qZ Tryz.prog 59=true:=by kernel_rfl
@[simp] theorem zs9:z8 Tryz.prog (.func 59)=false:=q9 znF
theorem zD2:KW zc4=.agg (List.replicate 32 (.i .u8 0)):=by simp[KW,zc4]
def zwB:List UInt8:=[111,117,116]
noncomputable def zCY:List (List UInt8)→List XF→Int
 | _,[]=>0
 | met,r::rs=>if yV r.path=false then 1 else if r.path∈met then 8 else if r.is=false∧r.sum≠zc4 then 5 else zCY (met++[r.path]) rs
noncomputable def zDe:Option (List UInt8)→List Made→Int
 | _,[]=>0
 | none,m::ms=>if zuT m.path zwB=false then 1 else zDe (some m.path) ms
 | some q,m::ms=>if zuT m.path zwB=false then 1 else if m.path=q then 8 else if Op.bytesLess m.path q=true then 2 else zDe (some m.path) ms
noncomputable def zCW (t:zaP):Int:=if 500<t.reads.length∨1000<t.outs.length then 6 else if zCY [] t.reads≠0 then zCY [] t.reads else zDe none t.outs
def zDw (l:List (List UInt8)):List (AV × AV):=l.map fun p=>(.s p,.b true)
theorem zDn (p:List UInt8):∀l,yY (.s p) (zDw l)=if p∈l then some (.b true) else none
 | []=>rfl
 | q::l=>by
  have:=zDn p l
  simp only[zDw,List.map_cons,yY]at this ⊢
  by_cases h:q=p
  ·simp[h]
  ·have h':¬p=q:=fun e=>h e.symm
   simp only[AV.s.injEq,h,if_false,this,List.mem_cons,h',false_or]
theorem zDy {p:List UInt8}:∀ {l},p∉l→xX (.s p) (.b true) (zDw l)=zDw (l++[p])
 | [],_=>rfl
 | q::l,h=>by
  simp only[List.mem_cons,not_or]at h
  have:=zDy (l:=l) h.2
  have h':¬q=p:=fun e=>h.1 e.symm
  simp only[zDw,List.map_cons,xX,AV.s.injEq,h',if_false]at this ⊢
  rw[this];rfl
@[simp] theorem zEC (l:List (List UInt8)):(zDw l).map (fun p=>(p.1.er,p.2.er))=zDw l:=by simp[zDw,AV.er,Function.comp_def]
def zEz (l:List XF):Prop:=l.length≤9223372036854775807∧∀r∈l,r.path.length≤9223372036854775807
def zEv (l:List Made):Prop:=l.length≤9223372036854775807∧∀r∈l,r.path.length≤9223372036854775807
set_option maxHeartbeats 8000000 in
theorem zE2 (l:List XF) (hl:zEz l):PC Tryz.prog 101 [.av (.slice 79) (qF l)] (.av (.int .i64) (.i .i64 (zCY [] l))):=by
 obtain⟨hl1,hl2⟩:=hl
 unfold PC
 refine q7.sub (R:=fun r H'=>r=.av (.int .i64) (.i .i64 (zCY [] l))) ?_ (fun r H' hr _=>⟨[],HSub.of_sub (List.nil_sublist _),hr,rfl⟩)
 refine q7.of_vc laid mixed Tryz.func101 rfl cf0 (by kernel_rfl) (by simp[Tryz.ntmps101]) fun imm0 w0=>?_
 (simp (maxSteps:=2000000) (disch:=first|omega|assumption) [zz,qF])
 intro b
 refine AT.loop' (α:=Nat) (fun k=>St.of [(3,.av (.map 9 4) (.map (some b))),(7,.av (.slice 79) (qF l)),(8,.av (.int .i64) (.i .i64 l.length)),(9,.av (.int .i64) (.i .i64 k))] [] (fun _=>0) [(b,.map 9 4 (zDw ((l.take k).map (·.path))))])
  (fun k=>k≤l.length∧zCY [] l=zCY ((l.take k).map (·.path)) (l.drop k)) (fun k=>l.length-k) 0 ?_ ?_ ?_
 ·refine Le.of ?_ ?_ ?_ ?_ ?_<;>simp[qU,qG,qO,qH,qP,qK,qF,qI,qJ,qN,qF,zDw]<;>try omega
 ·simp
 rintro k ⟨hk,hpk⟩ KL hN hE
 refine qM (cf:=cf0) laid mixed _ _ _ (by kernel_rfl) ?_
 by_cases hlt:k<l.length
 ·have hlt':(k:Int)<l.length:=by omega
  have hdr:l.drop k=l[k]::l.drop (k+1):=(List.getElem_cons_drop hlt).symm
  have htk:(l.take (k+1)).map (·.path)=(l.take k).map (·.path)++[l[k].path]:=by
   rw[List.take_succ_eq_append_getElem hlt]
   simp only[List.map_append,List.map_cons,List.map_nil]
  have hg:=KB qI l k hlt
  have hpl:=hl2 l[k] (List.getElem_mem _)
  obtain⟨r,hr⟩:∃r,r=l[k]:=⟨_,rfl⟩
  rw[←hr]at hdr htk hg hpl
  generalize hmet:(l.take k).map (·.path)=met at *
  have hfd:=zDn r.path met
  rw[hdr,zCY]at hpk
  (simp (maxSteps:=2000000) (disch:=first|omega|assumption) [zz,hlt',hg,qF,qI])
  refine qL (DL r.path (by omega)) rfl rfl (by simp) (by simp[qS,TV.er,AV.er]) ?_
  cases hm:yV r.path
  ·rw[if_pos hm]at hpk
   (simp (maxSteps:=2000000) (disch:=first|omega|assumption) [zz])
   refine hE _ _ (by simp) ?_
   (simp (maxSteps:=2000000) (disch:=first|omega|assumption) [zz,Tryz.f101,hpk])
  rw[if_neg (by simp[hm])]at hpk
  by_cases hin:r.path∈met
  ·rw[if_pos hin]at hpk hfd
   (simp (maxSteps:=2000000) (disch:=first|omega|assumption) [zz,hfd])
   refine hE _ _ (by simp) ?_
   (simp (maxSteps:=2000000) (disch:=first|omega|assumption) [zz,Tryz.f101,hpk])
  rw[if_neg hin]at hpk hfd
  have hmp:=zDy hin
  cases his:r.is
  ·by_cases hz:r.sum=zc4
   ·rw[if_neg (by simp[hz])]at hpk
    (simp (maxSteps:=2000000) (disch:=first|omega|assumption) [zz,hfd,his,hz,zD2,hmp,-List.reduceReplicate])
    refine hN _ (k+1) ?_ ⟨by omega,by rw[htk];exact hpk⟩ (by omega)
    refine Le.of ?_ ?_ ?_ ?_ ?_<;>simp[qU,qG,qO,qH,qP,qK,qF,qI,qJ,qN,qF,htk]<;>try omega
   ·rw[if_pos ⟨his,hz⟩]at hpk
    have hz':¬r.sum.map (fun b=>AV.i .u8 b.toNat)=List.replicate 32 (.i .u8 0):=by
     intro h
     have:=zD2
     simp only[KW,AV.agg.injEq]at this
     exact hz (zDQ.1 (h.trans this.symm))
    (simp (maxSteps:=2000000) (disch:=first|omega|assumption) [zz,hfd,his,KW,hz',-List.reduceReplicate])
    refine hE _ _ (by simp) ?_
    (simp (maxSteps:=2000000) (disch:=first|omega|assumption) [zz,Tryz.f101,hpk])
  ·rw[if_neg (by simp[his])]at hpk
   (simp (maxSteps:=2000000) (disch:=first|omega|assumption) [zz,hfd,his,hmp])
   refine hN _ (k+1) ?_ ⟨by omega,by rw[htk];exact hpk⟩ (by omega)
   refine Le.of ?_ ?_ ?_ ?_ ?_<;>simp[qU,qG,qO,qH,qP,qK,qF,qI,qJ,qN,qF,htk]<;>try omega
 ·have hlt':¬(k:Int)<l.length:=by omega
  (simp (maxSteps:=2000000) (disch:=first|omega|assumption) [zz,hlt'])
  refine hE _ _ (by simp) ?_
  rw[List.drop_of_length_le (by omega),zCY]at hpk
  (simp (maxSteps:=2000000) (disch:=first|omega|assumption) [zz,Tryz.f101,hpk])
def zDs (l:List Made) (k:Nat):Option (List UInt8):=if k=0 then none else(l[k-1]?).map (·.path)
set_option maxHeartbeats 8000000 in
theorem zEk (l:List Made) (hl:zEv l):PC Tryz.prog 102 [.av (.slice 133) (qJ l)] (.av (.int .i64) (.i .i64 (zDe none l))):=by
 obtain⟨hl1,hl2⟩:=hl
 refine PC.of <| q7.of_vc laid mixed Tryz.func102 rfl cf0 (by kernel_rfl) (by simp[Tryz.ntmps102]) fun imm0 w0=>?_
 (simp (maxSteps:=2000000) (disch:=first|omega|assumption) [zz,qJ])
 refine AT.loop' (α:=Nat) (fun k=>St.of [(0,.av (.slice 133) (qJ l)),(5,.av (.slice 133) (qJ l)),(6,.av (.int .i64) (.i .i64 l.length)),(7,.av (.int .i64) (.i .i64 k))] [] (fun _=>0) [])
  (fun k=>k≤l.length∧zDe none l=zDe (zDs l k) (l.drop k)) (fun k=>l.length-k) 0 ?_ ?_ ?_
 ·refine Le.of ?_ ?_ ?_ ?_ ?_<;>simp[qU,qG,qO,qH,qP,qK,qF,qI,qJ,qN,qJ]<;>try omega
 ·simp[zDs]
 rintro k ⟨hk,hpk⟩ KL hN hE
 refine qM (cf:=cf0) laid mixed _ _ _ (by kernel_rfl) ?_
 by_cases hlt:k<l.length
 ·have hlt':(k:Int)<l.length:=by omega
  have hdr:l.drop k=l[k]::l.drop (k+1):=(List.getElem_cons_drop hlt).symm
  have hpn:zDs l (k+1)=some l[k].path:=by simp[zDs,List.getElem?_eq_getElem hlt]
  have hg:=KB qN l k hlt
  have hpl:=hl2 l[k] (List.getElem_mem _)
  by_cases h0:k=0
  ·have h0':¬0<k:=by omega
   obtain⟨m,hm⟩:∃m,m=l[k]:=⟨_,rfl⟩
   rw[←hm]at hdr hpn hg hpl
   rw[hdr,zDs,if_pos h0,zDe]at hpk
   (simp (maxSteps:=2000000) (disch:=first|omega|assumption) [zz,hlt',hg,qJ,qN])
   refine qL (zDE m.path zwB (by omega) (by decide)) rfl rfl (by simp) (by simp[qS,TV.er,AV.er,coC,zwB]) ?_
   cases hu:zuT m.path zwB
   ·rw[if_pos hu]at hpk
    (simp (maxSteps:=2000000) (disch:=first|omega|assumption) [zz])
    refine hE _ _ (by simp) ?_
    (simp (maxSteps:=2000000) (disch:=first|omega|assumption) [zz,Tryz.f102,hpk])
   ·rw[if_neg (by simp[hu])]at hpk
    (simp (maxSteps:=2000000) (disch:=first|omega|assumption) [zz,h0'])
    refine hN _ (k+1) ?_ ⟨by omega,by rw[hpn];exact hpk⟩ (by omega)
    refine Le.of ?_ ?_ ?_ ?_ ?_<;>simp[qU,qG,qO,qH,qP,qK,qF,qI,qJ,qN,qJ]<;>try omega
  ·have h0':0<k:=by omega
   have hk1:k-1<l.length:=by omega
   have hk1':(k:Int)-1<l.length:=by omega
   have hk1'':(1:Int)≤k:=by omega
   have hgp:=KB qN l (k-1) hk1
   have hprev:zDs l k=some l[k-1].path:=by simp[zDs,h0,List.getElem?_eq_getElem hk1]
   obtain⟨q,hq⟩:∃q,q=l[k-1]:=⟨_,rfl⟩
   obtain⟨m,hm⟩:∃m,m=l[k]:=⟨_,rfl⟩
   rw[←hm]at hdr hpn hg hpl
   rw[←hq]at hgp hprev
   rw[hdr,hprev,zDe]at hpk
   (simp (maxSteps:=2000000) (disch:=first|omega|assumption) [zz,hlt',hg,qJ,qN])
   refine qL (zDE m.path zwB (by omega) (by decide)) rfl rfl (by simp) (by simp[qS,TV.er,AV.er,coC,zwB]) ?_
   cases hu:zuT m.path zwB
   ·rw[if_pos hu]at hpk
    (simp (maxSteps:=2000000) (disch:=first|omega|assumption) [zz])
    refine hE _ _ (by simp) ?_
    (simp (maxSteps:=2000000) (disch:=first|omega|assumption) [zz,Tryz.f102,hpk])
   rw[if_neg (by simp[hu])]at hpk
   by_cases he:m.path=q.path
   ·rw[if_pos he]at hpk
    (simp (maxSteps:=2000000) (disch:=first|omega|assumption) [zz,h0',hk1',hk1'',hgp,he,qN])
    (repeat with_reducible refine om ?_)
    refine hE _ _ (by simp) ?_
    (simp (maxSteps:=2000000) (disch:=first|omega|assumption) [zz,Tryz.f102,hpk])
   rw[if_neg he]at hpk
   cases hbl:Op.bytesLess m.path q.path
   ·rw[if_neg (by simp[hbl])]at hpk
    (simp (maxSteps:=2000000) (disch:=first|omega|assumption) [zz,h0',hk1',hk1'',hgp,he,qN,hbl])
    (repeat with_reducible refine om ?_)
    refine hN _ (k+1) ?_ ⟨by omega,by rw[hpn];exact hpk⟩ (by omega)
    refine Le.of ?_ ?_ ?_ ?_ ?_<;>simp[qU,qG,qO,qH,qP,qK,qF,qI,qJ,qN,qJ]<;>try omega
   ·rw[if_pos hbl]at hpk
    (simp (maxSteps:=2000000) (disch:=first|omega|assumption) [zz,h0',hk1',hk1'',hgp,he,qN,hbl])
    (repeat with_reducible refine om ?_)
    refine hE _ _ (by simp) ?_
    (simp (maxSteps:=2000000) (disch:=first|omega|assumption) [zz,Tryz.f102,hpk])
 ·have hlt':¬(k:Int)<l.length:=by omega
  (simp (maxSteps:=2000000) (disch:=first|omega|assumption) [zz,hlt'])
  refine hE _ _ (by simp) ?_
  rw[List.drop_of_length_le (by omega)]at hpk
  have hz:∀o,zDe o []=0:=fun o=>by cases o<;>rfl
  rw[hz]at hpk
  (simp (maxSteps:=2000000) (disch:=first|omega|assumption) [zz,Tryz.f102,hpk])
def TrP (t:zaP):Prop:=zEz t.reads∧zEv t.outs
set_option maxHeartbeats 4000000 in
theorem zE7 (t:zaP) (ht:TrP t):PC Tryz.prog 59 [.av (qD Tryz.prog 72) (qK t)] (.av (.int .i64) (.i .i64 (zCW t))):=by
 refine PC.of <| q7.of_vc laid mixed Tryz.func59 rfl cf0 (by kernel_rfl) (by simp[Tryz.ntmps59]) fun imm0 w0=>?_
 by_cases h1:500<t.reads.length
 ·have h1':(500:Int)<t.reads.length:=by omega
  (simp (maxSteps:=2000000) (disch:=first|omega|assumption) [zz,qK,qF,qJ,h1',Tryz.f59,zCW,h1])
 have h1':¬(500:Int)<t.reads.length:=by omega
 by_cases h2:1000<t.outs.length
 ·have h2':(1000:Int)<t.outs.length:=by omega
  (simp (maxSteps:=2000000) (disch:=first|omega|assumption) [zz,qK,qF,qJ,h1',h2',Tryz.f59,zCW,h1,h2])
 have h2':¬(1000:Int)<t.outs.length:=by omega
 (simp (maxSteps:=2000000) (disch:=first|omega|assumption) [zz,qK,qF,qJ,h1',h2'])
 refine qL (zE2 t.reads ht.1) rfl rfl (by simp) (by simp[qS,TV.er,AV.er,AV.ers_eq,Function.comp_def,qF]) ?_
 by_cases h3:zCY [] t.reads=0
 ·(simp (maxSteps:=2000000) (disch:=first|omega|assumption) [zz,h3])
  refine qL (zEk t.outs ht.2) rfl rfl (by simp) (by simp[qS,TV.er,AV.er,AV.ers_eq,Function.comp_def,qJ]) ?_
  (simp (maxSteps:=2000000) (disch:=first|omega|assumption) [zz,Tryz.f59,zCW,h1,h2,h3])
 ·(simp (maxSteps:=2000000) (disch:=first|omega|assumption) [zz,h3,Tryz.f59,zCW,h1,h2])
end Go.Proofs.YtooipdkilgpojaaGreatDoor
end
section
set_option maxRecDepth 100000
namespace Go.Proofs.YtooipdkilgpojaaGreatDoor
open Go Go.Ab
open Classical
variable [Sel]
end Go.Proofs.YtooipdkilgpojaaGreatDoor
end
section
set_option maxRecDepth 100000
namespace Go.Proofs.YtooipdkilgpojaaGreatDoor
open Go Go.Ab
open Classical
variable [Sel]
def tkO (d:Nat):Nat→Tok
 | 0=>.full
 | k+1=>.own d (k+1)
end Go.Proofs.YtooipdkilgpojaaGreatDoor
end
