/- The law BoxEnds: the program. No condition. -/
import Derived.Test.YtdkieabmeiojjaaGreatDoorBE0
set_option linter.unusedSimpArgs false
set_option linter.unusedVariables false
set_option linter.unusedSectionVars false
set_option maxHeartbeats 64000000
set_option maxRecDepth 100000
namespace Go.Proofs.YtdkieabmeiojjaaGreatDoor
open Go Go.Ab
open Classical
section
variable [Sel] [SelPow] [SelMax]
noncomputable def goF (f:Txt->Option KnV):Nat->zJ->Option zJ
 | 0,_=>none
 | n+1,b=>if b.over=true then some b else match f b.asks with
  | none=>some b
  | some k=>goF f n (y4 k b).2
def Ans (f:Txt->Option KnV):Prop:=∀p k,f p=some k->k.path=p/\k.data.length<=65536
theorem znQ {env:List (Txt × Txt)} {c0:CfV} {outs:List Txt} {may:Txt->Bool} {f:Txt->Option KnV} (hf:Ans f):∀(n:Nat) {kn:List KnV} {wr:List DoV} {b:zJ},X4 env c0 kn outs may wr b->500-kn.length<n->
  ∃b',goF f n b=some b'/\(b'.over=true\/f b'.asks=none)
 | 0,_,_,_,_,h=>absurd h (Nat.not_lt_zero _)
 | n+1,kn,wr,b,h,hn=>by
  rw[goF]
  by_cases ho:b.over=true
  ·simp_all
  rw[if_neg ho]
  have ho':b.over=false:=by simp_all
  cases hk:f b.asks with
  | none=>simp_all
  | some k =>
   simp only
   obtain⟨hk1,hk2⟩:=hf _ _ hk
   obtain⟨_,m,hg⟩:=h.give ho' k hk1 (fun _=>hk2)
   have hl:=hg.len
   simp only[List.length_append,List.length_cons,List.length_nil]at hl
   exact znQ hf n hg (by grind)
theorem zmO {t:Txt} {cs:List CmdV} (hcs:zL t=.ok cs) {env:List (Txt × Txt)} (h1:env.length<=1000000000) (h2:∀x∈env,x.2.length<=1000000000000000) {outs:List Txt} {may:Txt->Bool} {f:Txt->Option KnV} (hf:Ans f) :
  ∃b',goF f 600 (X3 env outs may cs)=some b'/\WN env cs outs may [] (X3 env outs may cs)/\(b'.over=true\/f b'.asks=none):=by
 obtain⟨m,h⟩:=zfq env outs may cs (Q8 hcs)
 obtain⟨b',g1,g2⟩:=znQ hf 600 h (by simp)
 grind [dV]
theorem znp {env:List (Txt × Txt)} {cs:List CmdV} {outs:List Txt} {may:Txt->Bool} {f:Txt->Option KnV} (hf:Ans f):∀(n:Nat) {kn:List KnV} {b b':zJ},WN env cs outs may kn b->goF f n b=some b'->∃kn',WN env cs outs may kn' b'
 | 0,_,_,_,_,h=>by cases h
 | n+1,kn,b,b',hk,h=>by
  rw[goF]at h
  by_cases ho:b.over=true
  ·grind
  rw[if_neg ho]at h
  have ho':b.over=false:=by simp_all
  cases hfk:f b.asks with
  | none=>grind
  | some k =>
   rw[hfk]at h
   simp only at h
   obtain⟨hk1,hk2⟩:=hf _ _ hfk
   exact znp hf n (hk.give k ho' hk1 (fun _=>hk2)).2 h
theorem zdX {b:zJ} {k:KnV} (ho:b.over=false) (hp:k.path=b.asks) (hd:k.data.length<=65536):(y4 k b).2.reads=b.reads++[QW k]:=by
 simp_all[y4,if_neg,zfg]
def JI (fs:List jK) (p:Txt):KnV:=match fs.find? fun f=>decide (f.path=p)with
 | none=>⟨p,false,[]⟩
 | some f=>⟨p,true,f.data⟩
def pS (fs:List jK):Bool:=fs.any fun f=>decide (65536<f.data.length)
def zss:wZ:=⟨0,0,[],[]⟩
noncomputable def zru (f:Txt->Option KnV) (a:QT) (cs:List CmdV):zJ:=(goF f 600 (X3 a.env a.outs (QS a) cs)).getD (X3 a.env a.outs (QS a) cs)
noncomputable def zpp (fs:List jK):Txt->Option KnV:=fun p=>some (JI fs p)
noncomputable def zrB (a:QT) (fs:List jK):wZ × Int:=match zL a.tool with
 | .error en=>(zss,en.1)
 | .ok cs=>if pS fs=true then(zss,6) else((ZH (zru (zpp fs) a cs)).1,0)
theorem zby (fs:List jK) (p:Txt):(JI fs p).path=p:=by grind [JI]
theorem zeF {fs:List jK} (h:pS fs=false):Ans (zpp fs):=by
 intro p k hk
 have hk:=(Option.some.inj hk).symm
 grind [JI,pS]
theorem zt8 {a:QT} (ha:zm2 a) {cs:List CmdV} (hcs:zL a.tool=.ok cs) {fs:List jK} (hl:pS fs=false) :
  goF (zpp fs) 600 (X3 a.env a.outs (QS a) cs)=some (zru (zpp fs) a cs)/\(zru (zpp fs) a cs).over=true/\WN a.env cs a.outs (QS a) [] (X3 a.env a.outs (QS a) cs):=by
 obtain⟨b',g1,g2,g3⟩:=zmO hcs (by have:=ha.be;omega:a.env.length<=1000000000) ha.bev (outs:=a.outs) (may:=QS a) (zeF hl)
 simp_all[zru,zpp]
abbrev zlN:TyD:=.struct [9,9]
def zki (f:AV) (Hs:q8) (g:jK->Bool) (ts:List jK):Prop:=Hs.er=Hs/\f.er=f/\∀x∈ts,VC1 f [.av zlN (zK x)] Hs fun r H'=>r=.av .bool (.b (g x))/\H'=Hs
theorem zms (g:jK->Bool) (f:AV) (Hs:q8) (ts:List jK) (hf:zki f Hs g ts) (hn:ts.length<=1000000000) :
  q7 Tryz.prog 30 [.av (.slice 43) (qL ts),.av .func f] Hs
   fun r H'=>r=.av (.int .i64) (.i .i64 (QJ g ts))/\H'=Hs:=by
 obtain⟨ho,hfe,hff⟩:=hf
 refine zov Tryz.func30 cf0 fun imm0 w0=>?_
 simp (disch:=omega) [zz,qL]
 refine AT.loop' (α:=Nat) (fun k=>St.of [(0,.av (.slice 43) (.sl .no (ts.map zK))),(1,.av .func f),(7,.av (.int .i64) (.i .i64 ts.length)),(8,.av (.int .i64) (.i .i64 k))] [] (fun _=>0) Hs)
  (fun k=>k<=ts.length/\∀x∈ts.take k,g x=false) (fun k=>ts.length-k) 0 ?_ ?_ ?_
 ·apply Le.of<;>simp[zR,qI]
 ·simp
 rintro k ⟨hk',hpk⟩ KL hN hE
 refine zrd cf0 ?_
 by_cases hlt:k<ts.length
 ·have hlt':(k:Int)<ts.length:=by omega
  have hg:=kG zK ts k hlt
  simp (disch:=omega) [zz,hlt',hg]
  refine Q6 (R:=fun r' H'=>r'=.av .bool (.b (g ts[k]))/\H'=Hs) Hs [] (by simp) ho (by simp[qE]) (hff _ (List.getElem_mem hlt)) ?_
  rintro r' H' ⟨rfl,rfl⟩ _
  refine⟨H',by simpa using HSub.refl _,?_⟩
  by_cases hp:g ts[k]=true
  ·simp (disch:=omega) [zz,hp]
   refine hE _ _ (by simp) ?_
   simp (disch:=omega) [zz,Tryz.f30,JR hlt hpk hp,ho]
  ·simp (disch:=omega) [zz,hp]
   refine hN _ (k+1) ?_ ⟨by omega,by rw[yC hlt];exact⟨hpk,by simpa using hp⟩⟩ (by omega)
   apply Le.of<;>simp[zR,qI]
 ·have hlt':¬(k:Int)<ts.length:=by omega
  simp (disch:=omega) [zz,hlt']
  refine hE _ _ (by simp) ?_
  rw[List.take_of_length_le (by omega)]at hpk
  simp (disch:=omega) [zz,Tryz.f30,ZP hpk,ho]
theorem zsW (x:jK):PC Tryz.prog 26 [.av zlN (zK x)] (.av .bool (.b (decide (65536<x.data.length)))):=by
 refine zow Tryz.func26 cf0 fun imm0 w0=>?_
 simp (disch:=omega) [zz,zK]
 by_cases h:65536<x.data.length
 ·have h':(65536:Int)<x.data.length:=by omega
  simp (disch:=omega) [zz,h,h',Tryz.f26]
 ·have h':¬(65536:Int)<x.data.length:=by omega
  simp (disch:=omega) [zz,h,h',Tryz.f26]
theorem zrO (ts:List jK) (hn:ts.length<=1000000000):PC Tryz.prog 25 [.av (.slice 43) (qL ts),.av .func (.fn 26 [])] (.av .bool (.b (pS ts))):=by
 have hf:zki (.fn 26 []) [] (fun x=>decide (65536<x.data.length)) ts:=⟨rfl,rfl,fun x hx=>⟨[],rfl,by simp,by have h9:=zsW x;unfold PC at h9;simpa[TV.er,AV.er]using h9⟩⟩
 have hef:=j6 ts
 refine zow Tryz.func25 cf0 fun imm0 w0=>?_
 simp (disch:=omega) [zz]
 refine qD (R:=fun r' H'=>r'=.av (.int .i64) (.i .i64 (QJ (fun x=>decide (65536<x.data.length)) ts))/\H'=[]) [] [] (by simp) rfl (by simp[qE]) (by simp) ?_ ?_
 ·have:=zms _ _ _ ts hf hn
  simpa[TV.er,AV.er,hef]using this
 rintro r' H' ⟨rfl,rfl⟩ _
 refine⟨[],by simpa using HSub.refl _,?_⟩
 rcases ZS (fun x:jK=>decide (65536<x.data.length)) ts with⟨he,hall⟩|⟨i,hi,he,hs,_⟩
 ·have hl:pS ts=false:=by unfold pS;rw[List.any_eq_false];intro x hx;have:=hall x hx;simpa using this
  rw[he,hl]
  simp (disch:=omega) [zz,Tryz.f25]
 ·have hl:pS ts=true:=by unfold pS;exact List.any_eq_true.2 ⟨_,List.getElem_mem hi,hs⟩
  rw[he,hl]
  have hi':(0:Int)<=i:=by omega
  simp (disch:=omega) [zz,hi',Tryz.f25]
theorem zsN (b:Nat) (p:Txt) (x:jK):q7 Tryz.prog 31 [.av zlN (zK x),.av .ptr (.ptr b .str [])] [(b,qS p)] fun r H'=>r=.av .bool (.b (decide (x.path=p)))/\H'=[(b,qS p)]:=by
 refine zov Tryz.func31 cf0 fun imm0 w0=>?_
 simp (disch:=omega) [zz,qS,zK]
 simp (disch:=omega) [zz,Tryz.f31]
noncomputable def zqR (fs:List jK):HObj:=.var (.slice 43) (qL fs)
theorem zs3 (fs:List jK):(zqR fs).er=zqR fs:=by simp[zqR,HObj.er_var]
abbrev ztB:Cfg:=⟨fun n=>n==2,fun _=>false⟩
theorem ztf (bf:Nat) (fs:List jK) (hn:fs.length<=1000000000) (p:Txt) :
  q7 Tryz.prog 29 [.av .str (.s p),.av .ptr (.ptr bf (.slice 43) [])] [(bf,zqR fs)] fun r H'=>r=.tup [(KnT,jD (JI fs p)),(.bool,.b true)]/\H'=[(bf,zqR fs)]:=by
 have hef:=j6 fs
 have hbe:=zs3 fs
 refine q7.sub (R:=fun r H'=>r=.tup [(KnT,jD (JI fs p)),(.bool,.b true)]/\∃H2,Ab.HSub H2 H'/\H2=[(bf,zqR fs)]) ?_ fun y H' ⟨h1,H2,h2,h3⟩ _=>⟨H2,h2,h1,h3⟩
 refine zov Tryz.func29 ztB fun imm0 w0=>?_
 simp (disch:=omega) [zz]
 intro b m1
 have m1':¬bf=b:=fun e=>m1 e.symm
 rw[show zqR fs=.var (.slice 43) (qL fs) from rfl]at hbe |-
 simp (disch:=omega) [zz,m1,m1']
 have hf:zki (.fn 31 [.ptr b .str []]) [(b,qS p)] (fun x=>decide (x.path=p)) fs:=⟨rfl,rfl,fun x hx=>⟨_,rfl,by simp,by simpa[TV.er,AV.er]using zsN b p x⟩⟩
 refine qD (R:=fun r' H'=>r'=.av (.int .i64) (.i .i64 (QJ (fun x:jK=>decide (x.path=p)) fs))/\H'=[(b,qS p)]) [(b,qS p)] [(bf,zqR fs)] (by simp[zqR,qS]) rfl (by simp[qE]) (by simp) ?_ ?_
 ·have:=zms _ _ _ fs hf hn
  simpa[TV.er,AV.er,hef,q8.er_cons,qS,HObj.er_var,AV.erk]using this
 rintro r' H' ⟨rfl,rfl⟩ _
 refine⟨_,HSub.refl _,?_⟩
 rcases CE (fun x:jK=>decide (x.path=p)) fs with⟨he,hf⟩|⟨i,hi,he,hf⟩
 ·have ht:JI fs p=⟨p,false,[]⟩:=by unfold JI;rw[hf]
  rw[he,ht]
  simp (disch:=omega) [zz,qS,zqR,m1,m1',hbe,jD,Tryz.f29]
  exact HSub.of_sub ((List.Sublist.refl _).cons _)
 ·have ht:JI fs p=⟨p,true,fs[i].data⟩:=by unfold JI;rw[hf]
  have hg:=kG zK fs i hi
  have hee:AV.ers (fs.map zK)=fs.map zK:=by simp[AV.ers_eq,Function.comp_def]
  have hi':(i:Int)<fs.length:=by omega
  have hi0:¬(i:Int)<0:=by omega
  rw[he,ht]
  simp (disch:=omega) [zz,qS,zqR,m1,m1',hi',hi0,qL,hg,zK]
  (repeat with_reducible refine om ?_)
  simp (disch:=omega) [zz,hbe,hee,jD,Tryz.f29]
  exact HSub.of_sub ((List.Sublist.refl _).cons _)
structure wB where
 b0:Nat->zJ
 who:Txt->Option Nat
 fs:List jK
def LeO (D D':Nat->Option wZ):Prop:=∀i o,D i=some o->D' i=some o
def LeK (f g:Txt->Option KnV):Prop:=∀p k,f p=some k->g p=some k
def kJ (S:wB) (D:Nat->Option wZ) (p:Txt):Option KnV:=match S.who p with
 | none=>some (JI S.fs p)
 | some j=>match D j with
  | none=>none
  | some o=>if o.kind=1 then some (JI o.outs p) else none
noncomputable def uK (S:wB) (D:Nat->Option wZ) (i:Nat):Option wZ:=match goF (kJ S D) 600 (S.b0 i)with
 | none=>none
 | some b=>if b.over=true then some (ZH b).1 else match S.who b.asks with
  | none=>none
  | some j=>match D j with
   | none=>none
   | some o=>if o.kind=2 then some ⟨2,16,[],b.reads⟩ else none
noncomputable def fuS (S:wB):Nat->Nat->Option wZ
 | 0=>fun _=>none
 | k+1=>uK S (fuS S k)
noncomputable def jL (S:wB) (i:Nat):Option wZ:=if h:∃o,∃k,fuS S k i=some o then some h.choose else none
theorem ZX {S:wB} {D D':Nat->Option wZ} (h:LeO D D'):LeK (kJ S D) (kJ S D'):=by
 intro p k hk
 unfold kJ at hk |-
 cases hm:S.who p with
 | none=>simp_all
 | some j =>
  rw[hm]at hk
  simp only at hk |-
  cases hd:D j with
  | none=>simp_all
  | some o =>
   rw[hd]at hk
   rw[h j o hd]
   exact hk
theorem d7 {f:Txt->Option KnV}:∀(n:Nat) {b b':zJ},goF f n b=some b'->b'.over=true\/f b'.asks=none
 | 0,_,_,h=>by cases h
 | n+1,b,b',h=>by
  rw[goF]at h
  by_cases ho:b.over=true
  ·simp_all
  rw[if_neg ho]at h
  cases hk:f b.asks with
  | none=>rw[hk]at h;cases h;exact .inr hk
  | some k=>rw[hk]at h;exact d7 n h
theorem XU {f g:Txt->Option KnV} (hfg:LeK f g):∀(n:Nat) {b b':zJ},goF f n b=some b'->(b'.over=true\/g b'.asks=none)->goF g n b=some b'
 | 0,_,_,h,_=>by cases h
 | n+1,b,b',h,he=>by
  rw[goF]at h |-
  by_cases ho:b.over=true
  ·simp_all
  rw[if_neg ho]at h |-
  cases hk:f b.asks with
  | none =>
   simp_all
  | some k =>
   rw[hk]at h
   rw[hfg _ _ hk]
   exact XU hfg n h he
theorem zbB {S:wB} {D D':Nat->Option wZ} (h:LeO D D'):LeO (uK S D) (uK S D'):=by
 intro i o ho
 unfold uK at ho |-
 cases hg:goF (kJ S D) 600 (S.b0 i)with
 | none=>simp_all
 | some b =>
  rw[hg]at ho
  simp only at ho
  by_cases hov:b.over=true
  ·rw[if_pos hov]at ho
   rw[XU (ZX h) 600 hg (.inl hov)]
   simp_all
  ·rw[if_neg hov]at ho
   cases hm:S.who b.asks with
   | none=>simp_all
   | some j =>
    rw[hm]at ho
    simp only at ho
    cases hd:D j with
    | none=>simp_all
    | some x =>
     rw[hd]at ho
     simp only at ho
     by_cases hx:x.kind=2
     ·have hn:kJ S D' b.asks=none:=by
       unfold kJ;rw[hm];simp only;rw[h j x hd];simp_all
      rw[XU (ZX h) 600 hg (.inr hn)]
      simp only
      rw[if_neg hov,hm]
      simp only
      rw[h j x hd]
      exact ho
     simp_all
theorem CM {S:wB}:∀k,LeO (fuS S k) (fuS S (k+1))
 | 0=>fun i o h=>by cases h
 | k+1=>zbB (CM k)
theorem p0 {S:wB} {k m:Nat} (h:k<=m):LeO (fuS S k) (fuS S m):=by
 induction m with
 | zero =>
      have:k=0:=by omega
      subst this;exact fun _ _ h=>h
 | succ m ih =>
  by_cases hk:k=m+1
  ·subst hk;exact fun _ _ h=>h
  ·exact fun i o ho=>CM m i o (ih (by omega) i o ho)
theorem ZF {S:wB} {i:Nat} {o:wZ}:jL S i=some o<->∃k,fuS S k i=some o:=by
 unfold jL
 constructor
 ·intro h
  split at h
  ·grind
  ·cases h
 ·rintro⟨k,hk⟩
  have hx:∃o,∃k,fuS S k i=some o:=⟨o,k,hk⟩
  rw[dif_pos hx]
  obtain⟨m,hm⟩:=hx.choose_spec
  have h1:=p0 (Nat.le_max_left k m) i o hk
  have h2:=p0 (Nat.le_max_right k m) i _ hm
  simp_all
theorem gC {S:wB} (k:Nat):LeO (fuS S k) (jL S):=fun i o h=>ZF.2 ⟨k,h⟩
theorem zhc {S:wB}:∀(n:Nat) {b b':zJ},goF (kJ S (jL S)) n b=some b'->∃k,goF (kJ S (fuS S k)) n b=some b'
 | 0,_,_,h=>by cases h
 | n+1,b,b',h=>by
  have he:=d7 (n+1) h
  rw[goF]at h
  by_cases ho:b.over=true
  ·simp_all[goF]
  rw[if_neg ho]at h
  cases hk:kJ S (jL S) b.asks with
  | none =>
   rw[hk]at h
   refine⟨0,?_⟩
   rw[goF,if_neg ho]
   grind [kJ,fuS]
  | some x =>
   rw[hk]at h
   obtain⟨k,hg⟩:=zhc n h
   obtain⟨m,hm⟩:∃m,kJ S (fuS S m) b.asks=some x:=by
    unfold kJ at hk |-
    cases hmk:S.who b.asks with
    | none=>simp_all
    | some j =>
     grind [ZF]
   refine⟨max k m,?_⟩
   rw[goF,if_neg ho,ZX (p0 (Nat.le_max_right k m)) _ _ hm]
   refine XU (ZX (p0 (Nat.le_max_left k m))) n hg ?_
   rcases he with he|he
   ·exact .inl he
   ·refine .inr ?_
    cases hz:kJ S (fuS S (max k m)) b'.asks with
    | none=>rfl
    | some y=>rw[ZX (gC _) _ _ hz]at he;cases he
theorem za0 {S:wB} (i:Nat):jL S i=uK S (jL S) i:=by
 cases h:jL S i with
 | some o =>
  obtain⟨k,hk⟩:=ZF.1 h
  exact(zbB (gC k) i o (CM k i o hk)).symm
 | none =>
  cases h2:uK S (jL S) i with
  | none=>rfl
  | some o =>
   exfalso
   have hx:∃k,uK S (fuS S k) i=some o:=by
    unfold uK at h2
    cases hg:goF (kJ S (jL S)) 600 (S.b0 i)with
    | none=>simp_all
    | some b =>
     rw[hg]at h2
     simp only at h2
     obtain⟨k,hk⟩:=zhc 600 hg
     by_cases hov:b.over=true
     ·rw[if_pos hov]at h2
      exact⟨k,by simp_all[uK]⟩
     ·rw[if_neg hov]at h2
      cases hm:S.who b.asks with
      | none=>simp_all
      | some j =>
       rw[hm]at h2
       simp only at h2
       cases hd:jL S j with
       | none=>simp_all
       | some x =>
        rw[hd]at h2
        simp only at h2
        obtain⟨m,hm2⟩:=ZF.1 hd
        by_cases hx:x.kind=2
        ·refine⟨max k m,?_⟩
         have h3:=p0 (Nat.le_max_right k m) j x hm2
         have hn:kJ S (fuS S (max k m)) b.asks=none:=by
          simp_all[kJ]
         unfold uK
         rw[XU (ZX (p0 (Nat.le_max_left k m))) 600 hk (.inr hn)]
         simp_all
        simp_all
   obtain⟨k,hk⟩:=hx
   have:fuS S (k+1) i=some o:=hk
   grind [ZF]
inductive kL (f:Txt->Option KnV):zJ->zJ->Prop
 | refl (b:zJ):kL f b b
 | step {b c:zJ} {k:KnV}:b.over=false->f b.asks=some k->kL f (y4 k b).2 c->kL f b c
theorem kL.snoc {f:Txt->Option KnV} {b c:zJ} {k:KnV} (h:kL f b c) (ho:c.over=false) (hk:f c.asks=some k):kL f b (y4 k c).2:=by
 induction h with
 | refl b=>exact .step ho hk (.refl _)
 | step h1 h2 _ ih=>exact .step h1 h2 (ih ho hk)
theorem UJ {f:Txt->Option KnV}:∀(n:Nat) {b b':zJ},goF f n b=some b'->kL f b b'
 | 0,_,_,h=>by cases h
 | n+1,b,b',h=>by
  rw[goF]at h
  by_cases ho:b.over=true
  ·rw[if_pos ho]at h;cases h;exact .refl _
  rw[if_neg ho]at h
  cases hk:f b.asks with
  | none=>rw[hk]at h;cases h;exact .refl _
  | some k=>rw[hk]at h;exact .step (by simp_all) hk (UJ n h)
theorem kL.two {f:Txt->Option KnV} {b x:zJ} (hx:kL f b x):∀ {y:zJ},kL f b y->kL f x y\/kL f y x:=by
 induction hx with
 | refl b=>simp_all
 | step h1 h2 h3 ih =>
  intro y hy
  cases hy with
  | refl=>exact .inr (.step h1 h2 h3)
  | step g1 g2 g3 =>
   simp_all
theorem kL.stop {f:Txt->Option KnV} {b c:zJ} (h:kL f b c) (he:b.over=true\/f b.asks=none):c=b:=by
 cases h with
 | refl=>rfl
 | step h1 h2 _ =>
  simp_all
theorem zic {f:Txt->Option KnV} {n:Nat} {b b' c:zJ} (hg:goF f n b=some b') (h:kL f b c) (he:c.over=true\/f c.asks=none):b'=c:=by
 rcases h.two (UJ n hg)with h1|h1
 ·exact h1.stop he
 ·exact(h1.stop (d7 n hg)).symm
def zoI (S:wB) (i:Nat) (p:Txt):Prop:=∃b,kL (kJ S (jL S)) (S.b0 i) b/\b.over=false/\b.asks=p
theorem kL.mono {f g:Txt->Option KnV} (h:LeK f g) {b c:zJ} (hr:kL f b c):kL g b c:=by
 induction hr with
 | refl b=>exact .refl b
 | step h1 h2 _ ih=>exact .step h1 (h _ _ h2) ih
theorem zo7 {f g:Txt->Option KnV} (hfg:LeK f g) {a b:zJ} (hr:kL g a b) (ho:b.over=false):∀ {n:Nat} {c:zJ},goF f n a=some c->
  (∃y,f b.asks=some y)\/(c=b/\f b.asks=none)\/(c.over=false/\f c.asks=none/\∃z,g c.asks=some z):=by
 induction hr with
 | refl b =>
  intro n c h
  cases n with
  | zero=>cases h
  | succ n =>
   rw[goF,if_neg (by rw[ho];simp)]at h
   grind
 | @step b0 _ k h1 h2 _ ih =>
  intro n c h
  cases n with
  | zero=>cases h
  | succ n =>
   rw[goF,if_neg (by rw[h1];simp)]at h
   cases hk:f b0.asks with
   | none=>simp_all
   | some y =>
    rw[hk]at h
    rw[hfg _ _ hk]at h2
    grind
theorem vQ {S:wB} {i j:Nat} {p:Txt} (ha:zoI S i p) (hm:S.who p=some j) {k:Nat} {o:wZ} (h:fuS S k i=some o):∃m,m<k/\∃x,fuS S m j=some x:=by
 cases k with
 | zero=>cases h
 | succ k =>
  refine⟨k,by omega,?_⟩
  obtain⟨b,hr,ho,rfl⟩:=ha
  have h:uK S (fuS S k) i=some o:=h
  unfold uK at h
  cases hg:goF (kJ S (fuS S k)) 600 (S.b0 i)with
  | none=>simp_all
  | some c =>
   rw[hg]at h
   simp only at h
   rcases zo7 (ZX (gC k)) hr ho hg with⟨y,hy⟩|⟨rfl,_⟩|⟨hco,hcn,z,hz⟩
   ·unfold kJ at hy
    grind
   ·grind
   ·exfalso
    rw[if_neg (by simp_all)]at h
    cases hmc:S.who c.asks with
    | none=>simp_all
    | some j2 =>
     rw[hmc]at h
     simp only at h
     cases hd:fuS S k j2 with
     | none=>simp_all
     | some x =>
      rw[hd]at h
      simp only at h
      unfold kJ at hz
      rw[hmc]at hz
      simp only at hz
      rw[gC k j2 x hd]at hz
      simp_all
def KC (S:wB) (i j:Nat):Prop:=∃p,zoI S i p/\S.who p=some j
theorem zeM {S:wB} {i j:Nat} (h:Relation.TransGen (KC S) i j):∀ {k:Nat} {o:wZ},fuS S k i=some o->∃m,m<k/\∃x,fuS S m j=some x:=by
 induction h with
 | single h=>obtain⟨p,h1,h2⟩:=h;grind [vQ]
 | tail _ h ih =>
  intro k o hk
  obtain⟨m,hm,x,hx⟩:=ih hk
  obtain⟨p,h1,h2⟩:=h
  grind [vQ]
theorem U6 {S:wB} {i:Nat} (h:Relation.TransGen (KC S) i i):jL S i=none:=by
 have:∀k,fuS S k i=none:=fun k=>by
  induction k using Nat.strongRecOn with
  | _ k ih =>
   cases hk:fuS S k i with
   | none=>rfl
   | some o =>
    grind [zeM]
 simp_all[jL]
theorem zia {S:wB} {i j:Nat} (h:KC S i j) (hj:jL S j=none):jL S i=none:=by
 cases hl:jL S i with
 | none=>rfl
 | some o =>
  obtain⟨k,hk⟩:=ZF.1 hl
  obtain⟨p,h1,h2⟩:=h
  grind [vQ,ZF]
noncomputable def xF (S:wB) (i:Nat):zJ:=(goF (kJ S (jL S)) 600 (S.b0 i)).getD (S.b0 i)
noncomputable def kS (S:wB) (i:Nat):wZ:=(jL S i).getD ⟨3,11,[],(xF S i).reads⟩
def zfa (S:wB) (i:Nat):Prop:=∃b,goF (kJ S (jL S)) 600 (S.b0 i)=some b
theorem G2 {S:wB} {i:Nat} (he:zfa S i) {b:zJ} (hr:kL (kJ S (jL S)) (S.b0 i) b) (h:b.over=true\/kJ S (jL S) b.asks=none):goF (kJ S (jL S)) 600 (S.b0 i)=some b/\xF S i=b:=by
 obtain⟨c,hc⟩:=he
 grind [zic,xF]
theorem zeA {S:wB} {i:Nat} (he:zfa S i) {b:zJ} (hr:kL (kJ S (jL S)) (S.b0 i) b) (ho:b.over=true):kS S i=(ZH b).1/\jL S i=some (ZH b).1:=by
 obtain⟨h1,h2⟩:=G2 he hr (.inl ho)
 have h3:jL S i=some (ZH b).1:=by simp_all[za0,uK]
 simp_all[kS]
theorem CG {S:wB} {i j:Nat} (he:zfa S i) {b:zJ} (hr:kL (kJ S (jL S)) (S.b0 i) b) (ho:b.over=false) (hm:S.who b.asks=some j) {o:wZ} (hj:jL S j=some o) (hk:o.kind=2):kS S i=⟨2,16,[],b.reads⟩/\jL S i=some ⟨2,16,[],b.reads⟩:=by
 have hn:kJ S (jL S) b.asks=none:=by simp_all[kJ]
 obtain⟨h1,h2⟩:=G2 he hr (.inr hn)
 have h3:jL S i=some ⟨2,16,[],b.reads⟩:=by
  rw[za0];simp_all[uK]
 simp_all[kS]
theorem zbb {S:wB} {i j:Nat} (he:zfa S i) {b:zJ} (hr:kL (kJ S (jL S)) (S.b0 i) b) (ho:b.over=false) (hm:S.who b.asks=some j) (hj:jL S j=none):kS S i=⟨3,11,[],b.reads⟩/\jL S i=none/\xF S i=b:=by
 have hn:kJ S (jL S) b.asks=none:=by simp_all[kJ]
 obtain⟨h1,h2⟩:=G2 he hr (.inr hn)
 have h3:jL S i=none:=zia ⟨b.asks,⟨b,hr,ho,rfl⟩,hm⟩ hj
 simp_all[kS]
end
end Go.Proofs.YtdkieabmeiojjaaGreatDoor
