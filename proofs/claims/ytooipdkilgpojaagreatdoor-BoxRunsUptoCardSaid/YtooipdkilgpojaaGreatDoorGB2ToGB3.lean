/- Is a text a pattern? The program. No condition beyond each theorem's own. -/
import Derived.Test.YtooipdkilgpojaaGreatDoorRW3ToGB1
import Derived.Test.YtooipdkilgpojaaGreatDoorP10ToK6
import Derived.Test.YtooipdkilgpojaaGreatDoorK11ToBS0
set_option linter.unusedSimpArgs false
set_option linter.unusedVariables false
set_option linter.unusedSectionVars false
section
set_option maxRecDepth 100000
namespace Go.Proofs.YtooipdkilgpojaaGreatDoor
open Go Go.Ab
open Classical
variable [Sel] [SelPow] [SelMax]
@[simp] theorem zA4:qZ Tryz.prog 189=true:=by kernel_rfl
@[simp] theorem zAH:z8 Tryz.prog (.func 189)=false:=q9 zA4
@[simp] theorem zmW:qZ Tryz.prog 151=true:=by kernel_rfl
@[simp] theorem zq9:z8 Tryz.prog (.func 151)=false:=q9 zmW
@[simp] theorem zlF:qZ Tryz.prog 110=true:=by kernel_rfl
@[simp] theorem zqu:z8 Tryz.prog (.func 110)=false:=q9 zlF
@[simp] theorem zld:qZ Tryz.prog 150=true:=by kernel_rfl
@[simp] theorem zqk:z8 Tryz.prog (.func 150)=false:=q9 zld
def y9 (c:UInt8):Bool:=jD c.toNat
def W6 (c:UInt8):Bool:=decide (c=63)||decide (c=42)
def KU:List UInt8→Bool
 | []=>true
 | c::r=>(y9 c||W6 c)&&(!Q8 (c::r) [42,42]&&KU r)
def y6 (s:List UInt8):Bool:=decide (s=[42,42])||(KU s&&decide (1≤s.length∧s.length≤64∧s≠[46]∧s≠[46,46]))
def PZ (p:List UInt8):Bool:=decide ((qT 47 p).length≤16)&&(qT 47 p).all y6
theorem zp8 (c:UInt8):(yV [97,c,97]&&decide (c≠47))=y9 c:=by
 by_cases h:c=47
 ·subst h;decide
 ·have hs:qT 47 [97,c,97]=[[97,c,97]]:=PH _ (by simp[Ne.symm h])
  have h1:jD 97=true:=by decide
  unfold yV
  rw[hs]
  simp[Q0,h1,h,y9]
theorem zjz (c:UInt8):PC Tryz.prog 189 [.av (.int .u8) (.i .u8 c.toNat)] (.av .bool (.b (y9 c))):=by
 have hm:=zp8 c
 by_cases h:c=47
 ·subst h
  have hb:yV [97,47,97]=true:=by decide
  have hp:y9 47=false:=by decide
  refine zow Tryz.func189 cf0 fun imm0 w0=>?_
  simp (disch:=omega) [zz]
  refine zcv (DL [97,47,97] (by simp)) ?_
  simp (disch:=omega) [zz,hb,hp,Tryz.f189]
 have h':¬(c.toNat:Int)=47:=by have:=YH (n:=47) (by omega) h;simpa using this
 have hd:decide (c≠47)=true:=by simpa using h
 rw[hd,Bool.and_true]at hm
 refine zow Tryz.func189 cf0 fun imm0 w0=>?_
 simp (disch:=omega) [zz]
 refine zcv (DL [97,c,97] (by simp)) ?_
 rw[hm]
 cases hp:y9 c
 ·simp (disch:=omega) [zz,Tryz.f189,hp]
 ·simp (disch:=omega) [zz,h',Tryz.f189,hp]
theorem zhW {s:List UInt8} {k:Nat} {c:UInt8} (h:s[k]?=some c):KU (s.drop k)=((y9 c||W6 c)&&(!Q8 (s.drop k) [42,42]&&KU (s.drop (k+1)))):=by
 rw[yJ h,KU]
set_option maxHeartbeats 4000000 in
theorem zix (s:List UInt8) (hs:s.length≤1000000000):PC Tryz.prog 151 [.av .str (.s s)] (.av .bool (.b (y6 s))):=by
 refine zow Tryz.func151 cf0 fun imm0 w0=>?_
 by_cases h0:s=[42,42]
 ·have:y6 s=true:=by simp[y6,h0]
  simp (disch:=omega) [zz,h0,Tryz.f151]
  rw[←h0];exact this
 have hpg:y6 s=(KU s&&decide (1≤s.length∧s.length≤64∧s≠[46]∧s≠[46,46])):=by simp[y6,h0]
 simp (disch:=omega) [zz,h0]
 refine AT.loop' (α:=Nat) (fun k=>St.of [(0,.av .str (.s s)),(7,.av (.int .i64) (.i .i64 s.length)),(8,.av (.int .i64) (.i .i64 k))] [] (fun _=>0) []) (fun k=>k≤s.length∧KU s=KU (s.drop k)) (fun k=>s.length-k) 0 ?_ ?_ ?_
 ·apply Le.of<;>simp[qU,qG,qO,qH,qP,qK,qF,qI,qJ,qN,zX]<;>try omega
 ·simp
 rintro k ⟨hk,hg⟩ KL hN hE
 refine qM (cf:=cf0) laid mixed _ _ _ (by kernel_rfl) ?_
 by_cases hlt:k<s.length
 rotate_left
 ·have hlt':¬(k:Int)<s.length:=by omega
  rw[List.drop_of_length_le (by omega)]at hg
  have hgt:KU s=true:=hg
  simp (disch:=omega) [zz,hlt']
  refine hE _ _ (by simp) ?_
  rw[hpg,hgt,Bool.true_and]
  by_cases h1:1≤s.length
  rotate_left
  ·have h1':¬(1:Int)≤s.length:=by omega
   simp (disch:=omega) [zz,h1,h1',Tryz.f151]
  have h1':(1:Int)≤s.length:=by omega
  by_cases h2:s.length≤64
  rotate_left
  ·have h2':¬(s.length:Int)≤64:=by omega
   simp (disch:=omega) [zz,h1,h1',h2,h2',Tryz.f151]
  have h2':(s.length:Int)≤64:=by omega
  by_cases h3:s=[46]
  ·simp (disch:=omega) [zz,h3,Tryz.f151]
  by_cases h4:s=[46,46]
  ·simp (disch:=omega) [zz,h4,Tryz.f151]
  simp (disch:=omega) [zz,h1,h1',h2,h2',h3,h4,Tryz.f151]
 have hlt':(k:Int)<s.length:=by omega
 obtain⟨c,hc⟩:∃c,c=s[k]:=⟨_,rfl⟩
 have hsc:s[k]=c:=hc.symm
 have hgc:s[k]?=some c:=by rw[List.getElem?_eq_getElem hlt,hsc]
 have hat:=zhW hgc
 have hdl:(s.drop k).length≤1000000000:=by rw[List.length_drop];omega
 have bad:y9 c=false→W6 c=false→y6 s=false:=by
  intro h1 h2
  rw[hpg,hg,hat,h1,h2];rfl
 have pre:Q8 (s.drop k) [42,42]=true→y6 s=false:=by
  intro h1
  rw[hpg,hg,hat,h1];simp
 have on:(y9 c||W6 c)=true→Q8 (s.drop k) [42,42]=false→KU s=KU (s.drop (k+1)):=by
  intro h1 h2
  rw[hg,hat,h1,h2];rfl
 simp (disch:=omega) [zz,hlt',hsc]
 refine zcv (zjz c) ?_
 cases hp:y9 c
 ·by_cases h63:c=63
  ·subst h63
   simp (disch:=omega) [zz,hsc]
   try (repeat with_reducible refine om ?_)
   refine qL (YW (s.drop k) [42,42] (by omega) (by simp)) rfl rfl (by simp) (by simp[qS,coC,TV.er,AV.er]) ?_
   cases hh:Q8 (s.drop k) [42,42]
   ·simp (disch:=omega) [zz,hh]
    refine hN _ (k+1) ?_ ⟨by omega,on (by decide) hh⟩ (by omega)
    apply Le.of<;>simp[qU,qG,qO,qH,qP,qK,qF,qI,qJ,qN,zX]<;>try omega
   ·simp (disch:=omega) [zz,hh]
    refine hE _ _ (by simp) ?_
    simp (disch:=omega) [zz,Tryz.f151,pre hh]
  have h63':¬(c.toNat:Int)=63:=by have:=YH (n:=63) (by omega) h63;simpa using this
  by_cases h42:c=42
  ·subst h42
   simp (disch:=omega) [zz,hsc,h63']
   try (repeat with_reducible refine om ?_)
   refine qL (YW (s.drop k) [42,42] (by omega) (by simp)) rfl rfl (by simp) (by simp[qS,coC,TV.er,AV.er]) ?_
   cases hh:Q8 (s.drop k) [42,42]
   ·simp (disch:=omega) [zz,hh]
    refine hN _ (k+1) ?_ ⟨by omega,on (by decide) hh⟩ (by omega)
    apply Le.of<;>simp[qU,qG,qO,qH,qP,qK,qF,qI,qJ,qN,zX]<;>try omega
   ·simp (disch:=omega) [zz,hh]
    refine hE _ _ (by simp) ?_
    simp (disch:=omega) [zz,Tryz.f151,pre hh]
  have h42':¬(c.toNat:Int)=42:=by have:=YH (n:=42) (by omega) h42;simpa using this
  have hw:W6 c=false:=by simp[W6,h63,h42]
  simp (disch:=omega) [zz,hsc,h63',h42']
  try (repeat with_reducible refine om ?_)
  refine hE _ _ (by simp) ?_
  simp (disch:=omega) [zz,Tryz.f151,bad hp hw]
 ·simp (disch:=omega) [zz,hsc]
  try (repeat with_reducible refine om ?_)
  refine qL (YW (s.drop k) [42,42] (by omega) (by simp)) rfl rfl (by simp) (by simp[qS,coC,TV.er,AV.er]) ?_
  cases hh:Q8 (s.drop k) [42,42]
  ·simp (disch:=omega) [zz,hh]
   refine hN _ (k+1) ?_ ⟨by omega,on (by rw[hp];rfl) hh⟩ (by omega)
   apply Le.of<;>simp[qU,qG,qO,qH,qP,qK,qF,qI,qJ,qN,zX]<;>try omega
  ·simp (disch:=omega) [zz,hh]
   refine hE _ _ (by simp) ?_
   simp (disch:=omega) [zz,Tryz.f151,pre hh]
theorem UN (l:List UInt8) (hl:l.length≤1000000):PC Tryz.prog 112 [.av .str (.s l),.av .str (.s [47])] (.av (.slice 9) (.sl .no (strs (qT 47 l)))):=by
 refine D9.freeze laid (by simp) ((zcL l 47 hl).mono ?_)
 rintro r H' ⟨b,rfl,rfl⟩
 exact .inr ⟨b,rfl,rfl⟩
theorem zl4 (x:List UInt8) (hx:x.length≤1000000000):PC Tryz.prog 150 [.av .str (.s x)] (.av .bool (.b (!y6 x))):=by
 refine zow Tryz.func150 cf0 fun imm0 w0=>?_
 simp (disch:=omega) [zz]
 refine zcv (zix x hx) ?_
 simp (disch:=omega) [zz,Tryz.f150]
theorem zmv (p:List UInt8) (hp:p.length≤1000000):PC Tryz.prog 110 [.av .str (.s p)] (.av .bool (.b (PZ p))):=by
 refine zow Tryz.func110 cf0 fun imm0 w0=>?_
 have hle:=QQ 47 p
 have hlen:∀x∈qT 47 p,x.length≤p.length:=fun x hx=>kU 47 p x hx
 simp (disch:=omega) [zz]
 refine qL (UN p hp) rfl rfl (by simp) (by simp[qS,coC,TV.er,AV.er]) ?_
 by_cases h16:(qT 47 p).length≤16
 ·have h16':((qT 47 p).length:Int)≤16:=by omega
  simp (disch:=omega) [zz,h16']
  refine qE (R:=fun r H'=>r=.av .bool (.b ((qT 47 p).any fun x=>!y6 x))∧H'=[]) [] [] (by simp) rfl (by simp[qQ]) (by simp) ?_ ?_
  ·have:=zbk (fun x=>!y6 x) (.fn 150 []) [] (qT 47 p) ⟨rfl,rfl,fun x hx=>⟨[],rfl,by simp,by have h9:=zl4 x (by have:=hlen x hx;omega);unfold PC at h9;simpa[TV.er,AV.er]using h9⟩⟩ (by omega)
   simpa[TV.er,AV.er]using this
  rintro r H' ⟨rfl,rfl⟩ _
  refine⟨[],by simpa using HSub.refl _,?_⟩
  have he:PZ p=!((qT 47 p).any fun x=>!y6 x):=by
   simp only[PZ,h16,decide_true,Bool.true_and,List.all_eq_not_any_not]
  simp (disch:=omega) [zz,Tryz.f110,he]
 ·have h16':¬((qT 47 p).length:Int)≤16:=by omega
  simp (disch:=omega) [zz,h16',Tryz.f110,PZ,h16]
@[simp] theorem zwN:qZ Tryz.prog 69=true:=by kernel_rfl
@[simp] theorem zxr:z8 Tryz.prog (.func 69)=false:=q9 zwN
@[simp] theorem zmJ:qZ Tryz.prog 113=true:=by kernel_rfl
@[simp] theorem zqK:z8 Tryz.prog (.func 113)=false:=q9 zmJ
def xQ (f:List Txt→Bool):List Txt→Bool
 | []=>f []
 | c::cs=>f (c::cs)||xQ f cs
def kE:List Txt→List Txt→Bool
 | [],ns=>ns.isEmpty
 | x::xs,ns=>if x=[42,42] then(if xs=[] then !ns.isEmpty else xQ (kE xs) ns) else match ns with
  | []=>false
  | n::ms=>wV x n&&kE xs ms
def wL (p s:Txt):Bool:=PZ p&&yV s&&kE (qT 47 p) (qT 47 s)
abbrev VM:TyD:=.map 184 4
abbrev TsT:TyD:=.slice 9
def WZ (a:Nat × Nat):AV:=.agg [.i .i64 a.1,.i .i64 a.2]
def KI (m:List ((Nat × Nat) × Bool)):List (AV × AV):=m.map fun x=>(WZ x.1,.b x.2)
def U2 (ps ns:List Txt) (m:List ((Nat × Nat) × Bool)):Prop:=∀x∈m,x.2=true→kE (ps.drop x.1.1) (ns.drop x.1.2)=false
theorem zcn {a b:Nat × Nat}:WZ a=WZ b↔a=b:=by
 obtain⟨a1,a2⟩:=a;obtain⟨b1,b2⟩:=b
 simp only[WZ,AV.agg.injEq,List.cons.injEq,AV.i.injEq,Prod.mk.injEq,true_and,and_true]
 omega
theorem DW (a:Nat × Nat):∀m:List ((Nat × Nat) × Bool),yY (WZ a) (KI m)=none∨∃b,yY (WZ a) (KI m)=some (.b b)∧(a,b)∈m
 | []=>.inl rfl
 | (x,b)::m=>by
  have ih:=DW a m
  simp only[KI,List.map_cons,yY,zcn]
  by_cases h:x=a
  ·subst h;rw[if_pos rfl];exact .inr ⟨b,rfl,by simp⟩
  ·rw[if_neg h]
   rcases ih with ih|⟨c,h1,h2⟩
   ·exact .inl ih
   ·exact .inr ⟨c,h1,by simp[h2]⟩
theorem pT (ps ns:List Txt) (a:Nat × Nat) (v:Bool) (hv:v=true→kE (ps.drop a.1) (ns.drop a.2)=false):∀m:List ((Nat × Nat) × Bool),U2 ps ns m→∃m',xX (WZ a) (.b v) (KI m)=KI m'∧U2 ps ns m'
 | [],_=>⟨[(a,v)],rfl,fun x hx h=>by
  rw[List.mem_singleton.1 hx]at h ⊢;exact hv h⟩
 | (x,b)::m,hm=>by
  obtain⟨m',h1,h2⟩:=pT ps ns a v hv m fun y hy=>hm y (by simp[hy])
  simp only[KI,List.map_cons,xX,zcn]
  by_cases h:x=a
  ·subst h;rw[if_pos rfl]
   refine⟨(x,v)::m,rfl,fun y hy hh=>?_⟩
   rcases List.mem_cons.1 hy with rfl|hy
   ·exact hv hh
   ·exact hm y (by simp[hy]) hh
  ·rw[if_neg h]
   refine⟨(x,b)::m',by simp only[KI]at h1;rw[h1];rfl,fun y hy hh=>?_⟩
   rcases List.mem_cons.1 hy with rfl|hy
   ·exact hm _ (by simp) hh
   ·exact h2 y hy hh
noncomputable def zxJ (l:List Txt):HObj:=.var TsT (.sl .no (strs l))
noncomputable def zph (N:Nat):HObj:=.var VM (.map (some N))
def zn4 (b5 b6 b7 b8:Nat):AV:=.fn 113 [.ptr b5 TsT [],.ptr b6 TsT [],.ptr b7 VM [],.ptr b8 .func []]
noncomputable def yM (b5 b6 b7 b8 N:Nat) (ps ns:List Txt) (m:List ((Nat × Nat) × Bool)):q8:=[(b5,zxJ ps),(b6,zxJ ns),(b7,zph N),(b8,.var .func (zn4 b5 b6 b7 b8)),(N,.map 184 4 (KI m))]
theorem XT (b5 b6 b7 b8 N:Nat) (ps ns:List Txt) (m:List ((Nat × Nat) × Bool)):(yM b5 b6 b7 b8 N ps ns m).er=yM b5 b6 b7 b8 N ps ns m:=by
 have h1:∀l,(zxJ l).er=zxJ l:=fun l=>by simp[zxJ,HObj.er_var,AV.erk]
 have h2:(HObj.map 184 4 (KI m)).er=.map 184 4 (KI m):=by
  simp[HObj.er_map,KI,WZ,AV.er,AV.ers,Function.comp_def]
 simp only[yM,q8.er_cons,q8.er_nil,h1,h2];rfl
abbrev zsl:Cfg:=⟨fun _=>false,fun n=>n==52⟩
theorem zmy (m:List ((Nat × Nat) × Bool)):(KI m).map (fun p=>(p.1.er,p.2.er))=KI m:=by
 simp[KI,WZ,AV.er,AV.ers,Function.comp_def]
theorem UM {xs ns:List Txt} (h:xs≠[]):kE ([42,42]::xs) ns=xQ (kE xs) ns:=by
 cases xs with
 | nil=>exact absurd rfl h
 | cons y r=>cases ns<;>simp[kE]
theorem zad {x n:Txt} {xs ms:List Txt} (h:x≠[42,42]):kE (x::xs) (n::ms)=(wV x n&&kE xs ms):=by
 simp[kE,h]
set_option maxHeartbeats 2000000 in
theorem zks (b5 b6 b7 b8 N:Nat) (ps ns:List Txt) (hps:ps.length≤1000000) (hns:ns.length≤1000000) (hpl:∀x∈ps,x.length≤1000000) (hnl:∀x∈ns,x.length≤1000000):∀(z i k:Nat) (m:List ((Nat × Nat) × Bool)),(ps.length-i)+(ns.length-k)<z→i≤ps.length→k≤ns.length→U2 ps ns m→
  q7 Tryz.prog 113 [.av (.int .i64) (.i .i64 i),.av (.int .i64) (.i .i64 k),.av .ptr (.ptr b5 TsT []),.av .ptr (.ptr b6 TsT []),.av .ptr (.ptr b7 VM []),.av .ptr (.ptr b8 .func [])] (yM b5 b6 b7 b8 N ps ns m)
   fun r H'=>r=.av .bool (.b (kE (ps.drop i) (ns.drop k)))∧∃m',U2 ps ns m'∧H'=yM b5 b6 b7 b8 N ps ns m':=by
 intro z
 induction z with
 | zero=>intro i k m hz;omega
 | succ z ih =>
  intro i k m hz hi hk hm
  refine q7.nodup fun hnd=>?_
  simp[yM,q8.keys]at hnd
  obtain⟨⟨n1,n2,n3,n4⟩,⟨n5,n6,n7⟩,⟨n8,n9⟩,n10⟩:=hnd
  have sy:∀ {a b:Nat},¬a=b→¬b=a:=fun h e=>h e.symm
  have n1':=sy n1;have n2':=sy n2;have n3':=sy n3;have n4':=sy n4;have n5':=sy n5;have n6':=sy n6;have n7':=sy n7;have n8':=sy n8;have n9':=sy n9;have n10':=sy n10
  have hme:=zmy
  refine q7.sub (R:=fun r H'=>r=.av .bool (.b (kE (ps.drop i) (ns.drop k)))∧∃m',U2 ps ns m'∧H'=yM b5 b6 b7 b8 N ps ns m') ?_ fun r H' h _=>⟨H',HSub.refl _,h⟩
  refine zov Tryz.func113 zsl fun imm0 w0=>?_
  rw[show yM b5 b6 b7 b8 N ps ns m=[(b5,.var TsT (.sl .no (strs ps))),(b6,.var TsT (.sl .no (strs ns))),(b7,.var VM (.map (some N))),(b8,.var .func (.fn 113 [.ptr b5 TsT [],.ptr b6 TsT [],.ptr b7 VM [],.ptr b8 .func []])),(N,.map 184 4 (KI m))] from rfl]
  by_cases hip:i=ps.length
  ·have hip':(i:Int)=ps.length:=by omega
   have hd:kE (ps.drop i) (ns.drop k)=decide (k=ns.length):=by
    rw[List.drop_of_length_le (by omega),kE]
    by_cases hkn:k=ns.length
    ·subst hkn;simp
    ·have:ns.drop k≠[]:=fun e=>by have:=congrArg List.length e;simp at this;omega
     simp[hkn,this]
   have hkk:decide ((k:Int)=ns.length)=decide (k=ns.length):=decide_eq_decide.2 (by omega)
   simp (disch:=omega) [zz,hip',n1,n1',n2,n2',n3,n3',n4,n4',n5,n5',n6,n6',n7,n7',n8,n8',n9,n9',n10,n10']
   rw[hkk]
   simp (disch:=omega) [zz,hd,hme,Tryz.f113]
   exact⟨m,hm,rfl⟩
  have hip':¬(i:Int)=ps.length:=by omega
  have hil:i<ps.length:=by omega
  have hii:(i:Int)<ps.length:=by omega
  obtain⟨x,hx⟩:∃x,x=ps[i]:=⟨_,rfl⟩
  have hgx:(strs ps)[i]?=some (.s x):=by rw[yH ps i hil,hx]
  have hdp:ps.drop i=x::ps.drop (i+1):=by rw[List.drop_eq_getElem_cons hil,hx]
  have hxl:x.length≤1000000:=hpl x (by rw[hx];exact List.getElem_mem _)
  by_cases hf:yY (WZ (i,k)) (KI m)=some (.b true)
  ·have hd:kE (ps.drop i) (ns.drop k)=false:=by
    rcases DW (i,k) m with h|⟨b,h1,h2⟩
    ·rw[h]at hf;cases hf
    ·rw[h1]at hf;cases hf
     exact hm _ h2 rfl
   simp only[WZ]at hf
   simp (disch:=omega) [zz,hip',hf,n1,n1',n2,n2',n3,n3',n4,n4',n5,n5',n6,n6',n7,n7',n8,n8',n9,n9',n10,n10']
   simp (disch:=omega) [zz,hd,hme,Tryz.f113]
   exact⟨m,hm,rfl⟩
  have hf2:yY (WZ (i,k)) (KI m)=none∨yY (WZ (i,k)) (KI m)=some (.b false):=by
   rcases DW (i,k) m with h|⟨b,h1,h2⟩
   ·exact .inl h
   ·cases b with
    | true=>exact absurd h1 hf
    | false=>exact .inr h1
  clear hf
  by_cases hxs:x=[42,42]
  rotate_left
  ·-- a plain part
   by_cases hkn:k<ns.length
   rotate_left
   ·have hkn':¬(k:Int)<ns.length:=by omega
    have hd:kE (ps.drop i) (ns.drop k)=false:=by
     rw[hdp,List.drop_of_length_le (l:=ns) (by omega)]
     simp[kE,hxs]
    rcases hf2 with hf|hf
    all_goals
     simp only[WZ]at hf
     simp (disch:=omega) [zz,hip',hii,hf,hgx,hxs,hkn',n1,n1',n2,n2',n3,n3',n4,n4',n5,n5',n6,n6',n7,n7',n8,n8',n9,n9',n10,n10']
     (repeat with_reducible refine om ?_)
     simp (disch:=omega) [zz,hd,hme,Tryz.f113]
     exact⟨m,hm,rfl⟩
   have hkn':(k:Int)<ns.length:=by omega
   obtain⟨n,hn⟩:∃n,n=ns[k]:=⟨_,rfl⟩
   have hgn:(strs ns)[k]?=some (.s n):=by rw[yH ns k hkn,hn]
   have hdn:ns.drop k=n::ns.drop (k+1):=by rw[List.drop_eq_getElem_cons hkn,hn]
   have hnl':n.length≤1000000:=hnl n (by rw[hn];exact List.getElem_mem _)
   have hd:kE (ps.drop i) (ns.drop k)=(wV x n&&kE (ps.drop (i+1)) (ns.drop (k+1))):=by
    rw[hdp,hdn,zad hxs]
   have hone:=zom x n (by omega) (by omega)
   have hih:=ih (i+1) (k+1) m (by omega) (by omega) (by omega) hm
   obtain⟨o,ho⟩:∃o,o=wV x n:=⟨_,rfl⟩
   rw[←ho]at hone hd
   have hfx:∃q,yY (WZ (i,k)) (KI m)=q∧(q=none∨q=some (.b false)):=⟨_,rfl,hf2⟩
   rcases hf2 with hf|hf
   all_goals
    simp only[WZ]at hf
    cases o with
    | false =>
     simp (disch:=omega) [zz,hip',hii,hf,hgx,hxs,hkn',hgn,n1,n1',n2,n2',n3,n3',n4,n4',n5,n5',n6,n6',n7,n7',n8,n8',n9,n9',n10,n10']
     try (repeat with_reducible refine om ?_)
     refine zcd (hone) ?_;(simp (maxSteps:=2000000) (disch:=first|omega|assumption) [zz,n1,n1',n2,n2',n3,n3',n4,n4',n5,n5',n6,n6',n7,n7',n8,n8',n9,n9',n10,n10'])
     try (repeat with_reducible refine om ?_)
     simp (disch:=omega) [zz,hd,hme,Tryz.f113]
     exact⟨m,hm,rfl⟩
    | true =>
     simp (disch:=omega) [zz,hip',hii,hf,hgx,hxs,hkn',hgn,n1,n1',n2,n2',n3,n3',n4,n4',n5,n5',n6,n6',n7,n7',n8,n8',n9,n9',n10,n10']
     try (repeat with_reducible refine om ?_)
     refine zcd (hone) ?_;(simp (maxSteps:=2000000) (disch:=first|omega|assumption) [zz,n1,n1',n2,n2',n3,n3',n4,n4',n5,n5',n6,n6',n7,n7',n8,n8',n9,n9',n10,n10'])
     try (repeat with_reducible refine om ?_)
     refine qE (R:=fun r H'=>r=.av .bool (.b (kE (ps.drop (i+1)) (ns.drop (k+1))))∧∃m',U2 ps ns m'∧H'=yM b5 b6 b7 b8 N ps ns m') (yM b5 b6 b7 b8 N ps ns m) [] (by rw[List.append_nil];exact List.Perm.refl _) rfl (by simp[qQ]) (by simp) ?_ ?_
     ·rw[XT]
      simpa[TV.er,AV.er,AV.ers]using hih
     rintro r H' ⟨rfl,m',hm',rfl⟩ _
     refine⟨yM b5 b6 b7 b8 N ps ns m',by rw[List.append_nil];exact HSub.refl _,?_⟩
     rw[show yM b5 b6 b7 b8 N ps ns m'=[(b5,.var TsT (.sl .no (strs ps))),(b6,.var TsT (.sl .no (strs ns))),(b7,.var VM (.map (some N))),(b8,.var .func (.fn 113 [.ptr b5 TsT [],.ptr b6 TsT [],.ptr b7 VM [],.ptr b8 .func []])),(N,.map 184 4 (KI m'))] from rfl]
     simp (disch:=omega) [zz,hd,hme,Tryz.f113]
     exact⟨m',hm',rfl⟩
  subst hxs
  by_cases hil1:i+1=ps.length
  ·have hil':(ps.length:Int)-1=i:=by omega
   have hd:kE (ps.drop i) (ns.drop k)=decide (k<ns.length):=by
    rw[hdp,List.drop_of_length_le (l:=ps) (by omega)]
    by_cases hkn:k<ns.length
    ·rw[List.drop_eq_getElem_cons hkn];simp[kE,hkn]
    ·rw[List.drop_of_length_le (by omega)];simp[kE,hkn]
   rcases hf2 with hf|hf
   all_goals
    simp only[WZ]at hf
    simp (disch:=omega) [zz,hip',hii,hil',hf,hgx,n1,n1',n2,n2',n3,n3',n4,n4',n5,n5',n6,n6',n7,n7',n8,n8',n9,n9',n10,n10']
    try (repeat with_reducible refine om ?_)
    simp (disch:=omega) [zz,hd,hme,Tryz.f113]
    exact⟨m,hm,rfl⟩
  have hil':¬(i:Int)=(ps.length:Int)-1:=by omega
  have hne:ps.drop (i+1)≠[]:=fun e=>by have:=congrArg List.length e;simp at this;omega
  have hih:=ih (i+1) k m (by omega) (by omega) hk hm
  have hdd:kE (ps.drop i) (ns.drop k)=xQ (kE (ps.drop (i+1))) (ns.drop k):=by rw[hdp,UM hne]
  obtain⟨y,hy⟩:∃y,y=kE (ps.drop (i+1)) (ns.drop k):=⟨_,rfl⟩
  rw[←hy]at hih
  rcases hf2 with hf|hf
  all_goals
   simp only[WZ]at hf
   cases y with
   | true =>
    have hd:kE (ps.drop i) (ns.drop k)=true:=by
     rw[hdd]
     cases hns:ns.drop k with
     | nil=>rw[xQ,←hns,←hy]
     | cons a b=>rw[xQ,←hns,←hy];rfl
    simp (disch:=omega) [zz,hip',hii,hil',hf,hgx,n1,n1',n2,n2',n3,n3',n4,n4',n5,n5',n6,n6',n7,n7',n8,n8',n9,n9',n10,n10']
    try (repeat with_reducible refine om ?_)
    refine qE (R:=fun r H'=>r=.av .bool (.b true)∧∃m',U2 ps ns m'∧H'=yM b5 b6 b7 b8 N ps ns m') (yM b5 b6 b7 b8 N ps ns m) [] (by rw[List.append_nil];exact List.Perm.refl _) rfl (by simp[qQ]) (by simp) ?_ ?_
    ·rw[XT]
     simpa[TV.er,AV.er,AV.ers]using hih
    rintro r H' ⟨rfl,m',hm',rfl⟩ _
    refine⟨yM b5 b6 b7 b8 N ps ns m',by rw[List.append_nil];exact HSub.refl _,?_⟩
    obtain⟨m2,hp1,hp2⟩:=pT ps ns (i,k) false (fun e=>by cases e) m' hm'
    simp only[WZ]at hp1
    rw[show yM b5 b6 b7 b8 N ps ns m'=[(b5,.var TsT (.sl .no (strs ps))),(b6,.var TsT (.sl .no (strs ns))),(b7,.var VM (.map (some N))),(b8,.var .func (.fn 113 [.ptr b5 TsT [],.ptr b6 TsT [],.ptr b7 VM [],.ptr b8 .func []])),(N,.map 184 4 (KI m'))] from rfl]
    simp (disch:=omega) [zz,hp1,n1,n1',n2,n2',n3,n3',n4,n4',n5,n5',n6,n6',n7,n7',n8,n8',n9,n9',n10,n10']
    simp (disch:=omega) [zz,hd,hme,Tryz.f113]
    exact⟨m2,hp2,rfl⟩
   | false =>
    simp (disch:=omega) [zz,hip',hii,hil',hf,hgx,n1,n1',n2,n2',n3,n3',n4,n4',n5,n5',n6,n6',n7,n7',n8,n8',n9,n9',n10,n10']
    try (repeat with_reducible refine om ?_)
    refine qE (R:=fun r H'=>r=.av .bool (.b false)∧∃m',U2 ps ns m'∧H'=yM b5 b6 b7 b8 N ps ns m') (yM b5 b6 b7 b8 N ps ns m) [] (by rw[List.append_nil];exact List.Perm.refl _) rfl (by simp[qQ]) (by simp) ?_ ?_
    ·rw[XT]
     simpa[TV.er,AV.er,AV.ers]using hih
    rintro r H' ⟨rfl,m',hm',rfl⟩ _
    refine⟨yM b5 b6 b7 b8 N ps ns m',by rw[List.append_nil];exact HSub.refl _,?_⟩
    rw[show yM b5 b6 b7 b8 N ps ns m'=[(b5,.var TsT (.sl .no (strs ps))),(b6,.var TsT (.sl .no (strs ns))),(b7,.var VM (.map (some N))),(b8,.var .func (.fn 113 [.ptr b5 TsT [],.ptr b6 TsT [],.ptr b7 VM [],.ptr b8 .func []])),(N,.map 184 4 (KI m'))] from rfl]
    by_cases hkn:k<ns.length
    rotate_left
    ·have hkn':¬(k:Int)<ns.length:=by omega
     have hd:kE (ps.drop i) (ns.drop k)=false:=by
      rw[hdd,List.drop_of_length_le (l:=ns) (by omega),xQ]
      rw[List.drop_of_length_le (l:=ns) (by omega)]at hy
      exact hy.symm
     obtain⟨m2,hp1,hp2⟩:=pT ps ns (i,k) true (fun _=>hd) m' hm'
     simp only[WZ]at hp1
     simp (disch:=omega) [zz,hkn',hp1,n1,n1',n2,n2',n3,n3',n4,n4',n5,n5',n6,n6',n7,n7',n8,n8',n9,n9',n10,n10']
     simp (disch:=omega) [zz,hd,hme,Tryz.f113]
     exact⟨m2,hp2,rfl⟩
    have hkn':(k:Int)<ns.length:=by omega
    have hd:kE (ps.drop i) (ns.drop k)=kE (ps.drop i) (ns.drop (k+1)):=by
     have e:kE (ps.drop i) (ns.drop (k+1))=xQ (kE (ps.drop (i+1))) (ns.drop (k+1)):=by rw[hdp,UM hne]
     rw[hdd,e]
     rw[List.drop_eq_getElem_cons hkn]at hy ⊢
     rw[xQ,←hy,Bool.false_or]
    have hih2:=ih i (k+1) m' (by omega) hi (by omega) hm'
    rw[hd]
    obtain⟨y2,hy2⟩:∃y2,y2=kE (ps.drop i) (ns.drop (k+1)):=⟨_,rfl⟩
    rw[←hy2]at hih2 hd
    simp (disch:=omega) [zz,hkn',n1,n1',n2,n2',n3,n3',n4,n4',n5,n5',n6,n6',n7,n7',n8,n8',n9,n9',n10,n10']
    try (repeat with_reducible refine om ?_)
    refine qE (R:=fun r H'=>r=.av .bool (.b y2)∧∃m',U2 ps ns m'∧H'=yM b5 b6 b7 b8 N ps ns m') (yM b5 b6 b7 b8 N ps ns m') [] (by rw[List.append_nil];exact List.Perm.refl _) rfl (by simp[qQ]) (by simp) ?_ ?_
    ·rw[XT]
     simpa[TV.er,AV.er,AV.ers]using hih2
    rintro r H' ⟨rfl,m3,hm3,rfl⟩ _
    refine⟨yM b5 b6 b7 b8 N ps ns m3,by rw[List.append_nil];exact HSub.refl _,?_⟩
    rw[show yM b5 b6 b7 b8 N ps ns m3=[(b5,.var TsT (.sl .no (strs ps))),(b6,.var TsT (.sl .no (strs ns))),(b7,.var VM (.map (some N))),(b8,.var .func (.fn 113 [.ptr b5 TsT [],.ptr b6 TsT [],.ptr b7 VM [],.ptr b8 .func []])),(N,.map 184 4 (KI m3))] from rfl]
    obtain⟨m2,hp1,hp2⟩:=pT ps ns (i,k) (!y2) (fun e=>by rw[hd];simpa using e) m3 hm3
    simp only[WZ]at hp1
    cases y2 with
    | false =>
     simp only[Bool.not_false]at hp1
     simp (disch:=omega) [zz,hp1,n1,n1',n2,n2',n3,n3',n4,n4',n5,n5',n6,n6',n7,n7',n8,n8',n9,n9',n10,n10']
     simp (disch:=omega) [zz,←hy2,hme,Tryz.f113]
     exact⟨m2,hp2,rfl⟩
    | true =>
     simp only[Bool.not_true]at hp1
     simp (disch:=omega) [zz,hp1,n1,n1',n2,n2',n3,n3',n4,n4',n5,n5',n6,n6',n7,n7',n8,n8',n9,n9',n10,n10']
     simp (disch:=omega) [zz,←hy2,hme,Tryz.f113]
     exact⟨m2,hp2,rfl⟩
end Go.Proofs.YtooipdkilgpojaaGreatDoor
end
