/- Does a pattern match a path? Row by row, as the reference does it: plain. No condition beyond each theorem's own. -/
import Derived.Test.YthgocigdldgpgaaGreatDoorGB2ToGB3
import Derived.Test.YthgocigdldgpgaaGreatDoorP10ToK6
set_option linter.unusedSimpArgs false
set_option linter.unusedVariables false
set_option linter.unusedSectionVars false
section
set_option maxRecDepth 100000
namespace Go.Proofs.YthgocigdldgpgaaGreatDoor
open Go Go.Ab
open Classical
variable [Sel] [SelPow] [SelMax]
def Led {α:Type} (M:List α→Bool) (s:List α) (at_:Nat→Bool):Prop:=∃k,k≤s.length∧at_ k=true∧M (s.drop k)=true
def VK (at_:Nat→Bool):Nat→Bool
 | 0=>at_ 0
 | k+1=>at_ (k+1)||VK at_ k
def cA (at_:Nat→Bool):Nat→Bool
 | 0=>false
 | k+1=>at_ k||cA at_ k
def zbv {α:Type} (f:α→Bool) (s:List α) (at_:Nat→Bool):Nat→Bool
 | 0=>false
 | k+1=>at_ k&&(match s[k]? with|some c=>f c|none=>false)
theorem gY (at_:Nat→Bool):∀k,VK at_ k=true↔∃j,j≤k∧at_ j=true
 | 0=>by
  simp only[VK]
  exact⟨fun h=>⟨0,by omega,h⟩,fun⟨j,h1,h2⟩=>by rwa[show j=0 by omega]at h2⟩
 | k+1=>by
  simp only[VK,Bool.or_eq_true,gY at_ k]
  constructor
  ·rintro(h|⟨j,h1,h2⟩)
   ·exact⟨k+1,by omega,h⟩
   ·exact⟨j,by omega,h2⟩
  ·rintro⟨j,h1,h2⟩
   by_cases h:j=k+1
   ·subst h;exact .inl h2
   ·exact .inr ⟨j,by omega,h2⟩
theorem zax (at_:Nat→Bool):∀k,cA at_ k=true↔∃j,j<k∧at_ j=true
 | 0=>by simp[cA]
 | k+1=>by
  simp only[cA,Bool.or_eq_true,zax at_ k]
  constructor
  ·rintro(h|⟨j,h1,h2⟩)
   ·exact⟨k,by omega,h⟩
   ·exact⟨j,by omega,h2⟩
  ·rintro⟨j,h1,h2⟩
   by_cases h:j=k
   ·subst h;exact .inl h2
   ·exact .inr ⟨j,by omega,h2⟩
theorem zd6 {α:Type} (M:List α→Bool) (s:List α):Led M s (fun k=>decide (k=0))↔M s=true:=by
 constructor
 ·rintro⟨k,h1,h2,h3⟩
  have:k=0:=by simpa using h2
  subst this;simpa using h3
 ·exact fun h=>⟨0,by omega,by simp,by simpa using h⟩
theorem zbE {α:Type} (s:List α) (at_:Nat→Bool):Led List.isEmpty s at_↔at_ s.length=true:=by
 constructor
 ·rintro⟨k,h1,h2,h3⟩
  have h4:s.drop k=[]:=by simpa using h3
  have h5:=congrArg List.length h4
  rw[List.length_drop]at h5
  have:k=s.length:=by simp at h5;omega
  subst this;exact h2
 ·exact fun h=>⟨s.length,by omega,h,by simp⟩
theorem zdM {α:Type} {M S:List α→Bool} (hS:∀s,S s=true↔∃n,n≤s.length∧M (s.drop n)=true) (s:List α) (at_:Nat→Bool):Led S s at_↔Led M s (VK at_):=by
 constructor
 ·rintro⟨k,h1,h2,h3⟩
  obtain⟨n,h4,h5⟩:=(hS _).1 h3
  rw[List.length_drop]at h4
  rw[List.drop_drop]at h5
  exact⟨k+n,by omega,(gY at_ _).2 ⟨k,by omega,h2⟩,h5⟩
 ·rintro⟨k,h1,h2,h3⟩
  obtain⟨j,h4,h5⟩:=(gY at_ _).1 h2
  refine⟨j,by omega,h5,(hS _).2 ⟨k-j,by rw[List.length_drop];omega,?_⟩⟩
  rw[List.drop_drop,show j+(k-j)=k by omega];exact h3
theorem zhR {α:Type} {S:List α→Bool} (hS:∀s,S s=!s.isEmpty) (s:List α) (at_:Nat→Bool):Led S s at_↔Led List.isEmpty s (cA at_):=by
 rw[zbE,zax]
 constructor
 ·rintro⟨k,h1,h2,h3⟩
  rw[hS]at h3
  have h4:s.drop k≠[]:=by simpa using h3
  refine⟨k,Nat.lt_of_not_le fun h=>h4 (List.drop_of_length_le h),h2⟩
 ·rintro⟨j,h1,h2⟩
  refine⟨j,by omega,h2,?_⟩
  rw[hS,List.drop_eq_getElem_cons h1];rfl
theorem zfF {α:Type} {M S:List α→Bool} {f:α→Bool} (h0:S []=false) (h1:∀c cs,S (c::cs)=(f c&&M cs)) (s:List α) (at_:Nat→Bool):Led S s at_↔Led M s (zbv f s at_):=by
 constructor
 ·rintro⟨k,h2,h3,h4⟩
  by_cases hk:k<s.length
  ·rw[List.drop_eq_getElem_cons hk,h1,Bool.and_eq_true]at h4
   refine⟨k+1,by omega,?_,h4.2⟩
   simp only[zbv,h3,Bool.true_and,List.getElem?_eq_getElem hk];exact h4.1
  ·rw[List.drop_of_length_le (by omega),h0]at h4;cases h4
 ·rintro⟨k,h2,h3,h4⟩
  cases k with
  | zero=>cases h3
  | succ k =>
   have hk:k<s.length:=by omega
   simp only[zbv,Bool.and_eq_true,List.getElem?_eq_getElem hk]at h3
   refine⟨k,by omega,h3.1,?_⟩
   rw[List.drop_eq_getElem_cons hk,h1,h3.2,h4];rfl
theorem zaT (f:List Txt→Bool):∀s:List Txt,xQ f s=true↔∃n,n≤s.length∧f (s.drop n)=true
 | []=>by
  simp only[xQ]
  exact⟨fun h=>⟨0,by simp,h⟩,by rintro⟨n,_,h⟩;simpa using h⟩
 | c::cs=>by
  have ih:=zaT f cs
  simp only[xQ,Bool.or_eq_true,ih]
  constructor
  ·rintro(h|⟨n,h1,h2⟩)
   ·exact⟨0,by simp,h⟩
   ·exact⟨n+1,by simp;omega,by simpa using h2⟩
  ·rintro⟨n,h1,h2⟩
   cases n with
   | zero=>exact .inl h2
   | succ n=>exact .inr ⟨n,by simp at h1;omega,by simpa using h2⟩
def ziM (c:UInt8) (s:List UInt8) (at_:Nat→Bool):Nat→Bool :=
 if c=42 then VK at_ else zbv (fun x=>decide (c=63)||decide (c=x)) s at_
theorem zlC (c:UInt8) (ps s:List UInt8) (at_:Nat→Bool):Led (wV (c::ps)) s at_↔Led (wV ps) s (ziM c s at_):=by
 unfold ziM
 by_cases h:c=42
 ·subst h
  rw[if_pos rfl]
  exact zdM (fun s=>by rw[XZ];exact KQ _ s) s at_
 ·rw[if_neg h]
  exact zfF (by simp[wV,h]) (fun x xs=>by simp[wV,h]) s at_
theorem ziQ (s:List UInt8) (at_:Nat→Bool):Led (wV []) s at_↔at_ s.length=true:=by
 rw[←zbE];exact Iff.of_eq (congrArg (fun M=>Led M s at_) (funext fun s=>by cases s<;>rfl))
def zaa (x:Txt) (last:Bool) (ns:List Txt) (at_:Nat→Bool):Nat→Bool :=
 if x=[42,42] then(if last then cA at_ else VK at_) else zbv (wV x) ns at_
theorem ziO (x:Txt) (xs ns:List Txt) (at_:Nat→Bool):Led (kE (x::xs)) ns at_↔Led (kE xs) ns (zaa x xs.isEmpty ns at_):=by
 unfold zaa
 by_cases h:x=[42,42]
 ·subst h
  rw[if_pos rfl]
  cases xs with
  | nil =>
   refine(zhR (fun s=>by cases s<;>rfl) ns at_).trans ?_
   exact Iff.of_eq (congrArg (fun M=>Led M ns _) (funext fun s=>by cases s<;>rfl))
  | cons y r =>
   simp only[List.isEmpty_cons,Bool.false_eq_true,if_false]
   exact zdM (fun s=>by rw[UM (by simp)];exact zaT _ s) ns at_
 ·rw[if_neg h]
  exact zfF (by simp[kE,h]) (fun c cs=>zad h) ns at_
theorem zhq (ns:List Txt) (at_:Nat→Bool):Led (kE []) ns at_↔at_ ns.length=true:=by
 rw[←zbE];exact Iff.of_eq (congrArg (fun M=>Led M ns at_) (funext fun s=>by cases s<;>rfl))
@[simp] theorem zmY:qZ Tryz.prog 135=true:=by kernel_rfl
@[simp] theorem zra:z8 Tryz.prog (.func 135)=false:=q9 zmY
@[simp] theorem zoC:qZ Tryz.prog 94=true:=by kernel_rfl
@[simp] theorem zsj:z8 Tryz.prog (.func 94)=false:=q9 zoC
@[simp] theorem znC:qZ Tryz.prog 96=true:=by kernel_rfl
@[simp] theorem zrB:z8 Tryz.prog (.func 96)=false:=q9 znC
@[simp] theorem zos:qZ Tryz.prog 55=true:=by kernel_rfl
@[simp] theorem zrK:z8 Tryz.prog (.func 55)=false:=q9 zos
def YP:Bool→List UInt8→Bool
 | _,[]=>true
 | b,c::r=>(y9 c||W6 c)&&(!(b&&decide (c=42))&&YP (decide (c=42)) r)
theorem zck:∀(s:List UInt8) (b:Bool),YP b s=(KU s&&!(b&&Q8 s [42]))
 | [],b=>by cases b<;>rfl
 | c::r,b=>by
  have ih:=zck r (decide (c=42))
  have h1:Q8 (c::r) [42]=decide (c=42):=by simp[Q8]
  have h2:Q8 (c::r) [42,42]=(decide (c=42)&&Q8 r [42]):=by
   cases r<;>simp[Q8]
  rw[YP,KU,ih,h1,h2]
  cases y9 c<;>cases W6 c<;>cases b<;>cases decide (c=42)<;>cases KU r<;>cases Q8 r [42]<;>rfl
theorem zk3 {b:Bool} {s:List UInt8} {k:Nat} {c:UInt8} (h:s[k]?=some c):YP b (s.drop k)=((y9 c||W6 c)&&(!(b&&decide (c=42))&&YP (decide (c=42)) (s.drop (k+1)))):=by
 rw[yJ h,YP]
def gU (s:List UInt8):Nat→Bool
 | 0=>false
 | k+1=>decide (s[k]?=some 42)
theorem znP (c:UInt8):Q0 [97,c]=y9 c:=by
 have h1:jD 97=true:=by decide
 simp[Q0,h1,y9]
set_option maxHeartbeats 4000000 in
theorem zhe (s:List UInt8) (hs:s.length≤1000000000):PC Tryz.prog 135 [.av .str (.s s)] (.av .bool (.b (y6 s))):=by
 refine PC.of <| q7.of_vc laid mixed Tryz.func135 rfl cf0 (by kernel_rfl) (by simp[Tryz.ntmps135]) fun imm0 w0=>?_
 by_cases h0:s=[42,42]
 ·have:y6 s=true:=by simp[y6,h0]
  (simp (maxSteps:=2000000) (disch:=first|omega|assumption) [zz,h0,Tryz.f135])
  rw[←h0];exact this
 have hpg:y6 s=(KU s&&decide (1≤s.length∧s.length≤64∧s≠[46]∧s≠[46,46])):=by simp[y6,h0]
 by_cases h1:s=[]
 ·have hr:y6 s=false:=by rw[hpg,h1];simp
  (simp (maxSteps:=2000000) (disch:=first|omega|assumption) [zz,h0,h1,Tryz.f135])
  rw[←h1];exact hr
 have h1':¬(s.length:Int)=0:=fun h=>h1 (List.eq_nil_of_length_eq_zero (by omega))
 have h1l:1≤s.length:=by omega
 by_cases h2:s.length≤64
 rotate_left
 ·have hr:y6 s=false:=by rw[hpg];simp[h2]
  have h2':(64:Int)<s.length:=by omega
  (simp (maxSteps:=2000000) (disch:=first|omega|assumption) [zz,h0,h1,h1',h2',hr,Tryz.f135])
 have h2':¬(64:Int)<s.length:=by omega
 by_cases h3:s=[46]
 ·have hr:y6 s=false:=by rw[hpg];simp[h3]
  (simp (maxSteps:=2000000) (disch:=first|omega|assumption) [zz,h0,h1,h1',h2',h3,Tryz.f135])
  rw[←h3];exact hr
 by_cases h4:s=[46,46]
 ·have hr:y6 s=false:=by rw[hpg];simp[h4]
  (simp (maxSteps:=2000000) (disch:=first|omega|assumption) [zz,h0,h1,h1',h2',h3,h4,Tryz.f135])
  rw[←h4];exact hr
 have hpw:y6 s=YP false s:=by rw[hpg,zck];simp[h1l,h2,h3,h4]
 (simp (maxSteps:=2000000) (disch:=first|omega|assumption) [zz,h0,h1,h1',h2',h3,h4])
 refine AT.loop' (α:=Nat) (fun k=>St.of [(0,.av .str (.s s)),(3,.av (.int .i64) (.i .i64 k))] [] (fun _=>0) []) (fun k=>k≤s.length∧YP false s=YP (gU s k) (s.drop k)) (fun k=>s.length-k) 0 ?_ ?_ ?_
 ·refine Le.of ?_ ?_ ?_ ?_ ?_<;>simp[qU,qG,qO,qH,qP,qK,qF,qI,qJ,qN,zX]<;>try omega
 ·exact⟨by omega,by simp[gU]⟩
 rintro k ⟨hk,hg⟩ KL hN hE
 refine qM (cf:=cf0) laid mixed _ _ _ (by kernel_rfl) ?_
 by_cases hlt:k<s.length
 rotate_left
 ·have hlt':¬(k:Int)<s.length:=by omega
  rw[List.drop_of_length_le (by omega)]at hg
  have hr:y6 s=true:=by rw[hpw,hg];rfl
  (simp (maxSteps:=2000000) (disch:=first|omega|assumption) [zz,hlt'])
  refine hE _ _ (by simp) ?_
  (simp (maxSteps:=2000000) (disch:=first|omega|assumption) [zz,Tryz.f135,hr])
 have hlt':(k:Int)<s.length:=by omega
 obtain⟨c,hc⟩:∃c,c=s[k]:=⟨_,rfl⟩
 have hsc:s[k]=c:=hc.symm
 have hgc:s[k]?=some c:=by rw[List.getElem?_eq_getElem hlt,hsc]
 have hat:=zk3 (b:=gU s k) hgc
 have hpt:=znP c
 have hn1:gU s (k+1)=decide (c=42):=by simp[gU,hgc]
 have bad:y9 c=false→W6 c=false→y6 s=false:=by
  intro h1 h2
  rw[hpw,hg,hat,h1,h2];rfl
 have pre:gU s k=true→c=42→y6 s=false:=by
  intro h1 h2
  rw[hpw,hg,hat,h1,decide_eq_true h2];simp
 have on:(y9 c||W6 c)=true→(gU s k=true→c=42→False)→YP false s=YP (gU s (k+1)) (s.drop (k+1)):=by
  intro h1 h2
  rw[hg,hat,h1,hn1]
  cases h3:gU s k
  ·simp
  ·have:¬c=42:=fun h=>h2 h3 h
   simp[this]
 by_cases h42:c=42
 ·subst h42
  have hgd:(y9 42||W6 42)=true:=by decide
  cases k with
  | zero =>
   have hz:0<s.length:=by omega
   (simp (maxSteps:=2000000) (disch:=first|omega|assumption) [zz,hlt',hz,hsc])
   try (repeat with_reducible refine om ?_)
   refine hN _ 1 ?_ ⟨by omega,on hgd (by simp[gU])⟩ (by omega)
   refine Le.of ?_ ?_ ?_ ?_ ?_<;>simp[qU,qG,qO,qH,qP,qK,qF,qI,qJ,qN,zX]<;>try omega
  | succ j =>
   have hj:j<s.length:=by omega
   have hj':((j:Int)+1)-1=j:=by omega
   have hj0:(0:Int)<(j:Int)+1:=by omega
   have hj1:(j:Int)+1<s.length:=by omega
   have hj2:(0:Int)≤(j:Int)+1:=by omega
   obtain⟨d,hd⟩:∃d,d=s[j]:=⟨_,rfl⟩
   have hsd:s[j]=d:=hd.symm
   have hgd':s[j]?=some d:=by rw[List.getElem?_eq_getElem hj,hsd]
   have hpj:gU s (j+1)=decide (d=42):=by simp[gU,hgd']
   by_cases hd42:d=42
   ·subst hd42
    have hr:=pre (by rw[hpj];rfl) rfl
    (simp (maxSteps:=2000000) (disch:=first|omega|assumption) [zz,hlt',hsc,hsd,hj',hj0,hj1,hj2,hj])
    try (repeat with_reducible refine om ?_)
    refine hE _ _ (by simp) ?_
    (simp (maxSteps:=2000000) (disch:=first|omega|assumption) [zz,Tryz.f135,hr])
   ·have hd42':¬(d.toNat:Int)=42:=by have:=YH (n:=42) (by omega) hd42;simpa using this
    (simp (maxSteps:=2000000) (disch:=first|omega|assumption) [zz,hlt',hsc,hsd,hj',hj0,hj1,hj2,hj,hd42,hd42'])
    try (repeat with_reducible refine om ?_)
    refine hN _ (j+1+1) ?_ ⟨by omega,on hgd (by rw[hpj];simp[hd42])⟩ (by omega)
    refine Le.of ?_ ?_ ?_ ?_ ?_<;>simp[qU,qG,qO,qH,qP,qK,qF,qI,qJ,qN,zX]<;>try omega
 have h42':¬(c.toNat:Int)=42:=by have:=YH (n:=42) (by omega) h42;simpa using this
 have go:(y9 c||W6 c)=true→YP false s=YP (gU s (k+1)) (s.drop (k+1)):=fun h=>on h fun _ h2=>h42 h2
 by_cases h63:c=63
 ·subst h63
  have hgd:(y9 63||W6 63)=true:=by decide
  rcases Nat.eq_zero_or_pos k with rfl|hk0
  ·have hz:0<s.length:=by omega
   (simp (maxSteps:=2000000) (disch:=first|omega|assumption) [zz,hlt',hz,hsc])
   try (repeat with_reducible refine om ?_)
   refine hN _ 1 ?_ ⟨by omega,go hgd⟩ (by omega)
   refine Le.of ?_ ?_ ?_ ?_ ?_<;>simp[qU,qG,qO,qH,qP,qK,qF,qI,qJ,qN,zX]<;>try omega
  have hkn:k≠0:=by omega
  (simp (maxSteps:=2000000) (disch:=first|omega|assumption) [zz,hlt',hsc,hk0,hkn])
  try (repeat with_reducible refine om ?_)
  refine hN _ (k+1) ?_ ⟨by omega,go hgd⟩ (by omega)
  refine Le.of ?_ ?_ ?_ ?_ ?_<;>simp[qU,qG,qO,qH,qP,qK,qF,qI,qJ,qN,zX]<;>try omega
 have h63':¬(c.toNat:Int)=63:=by have:=YH (n:=63) (by omega) h63;simpa using this
 have hsl:(s.take (k+1)).drop k=[c]:=by
  rw[List.drop_take,show k+1-k=1 by omega,yJ hgc];rfl
 (simp (maxSteps:=2000000) (disch:=first|omega|assumption) [zz,hlt',hsc,h42,h42',h63,h63',hsl])
 try (repeat with_reducible refine om ?_)
 refine qL (zcA [97,c] (by simp)) rfl rfl (by simp) (by simp[qS,coC,TV.er,AV.er,hsl]) ?_
 rw[hpt]
 cases hp:y9 c
 ·have hr:=bad hp (by simp[W6,h63,h42])
  (simp (maxSteps:=2000000) (disch:=first|omega|assumption) [zz,hp])
  try (repeat with_reducible refine om ?_)
  refine hE _ _ (by simp) ?_
  (simp (maxSteps:=2000000) (disch:=first|omega|assumption) [zz,Tryz.f135,hr])
 ·rcases Nat.eq_zero_or_pos k with rfl|hk0
  ·have hz:0<s.length:=by omega
   (simp (maxSteps:=2000000) (disch:=first|omega|assumption) [zz,hp,hlt',hz,hsc,h42,h42'])
   try (repeat with_reducible refine om ?_)
   refine hN _ 1 ?_ ⟨by omega,go (by rw[hp];rfl)⟩ (by omega)
   refine Le.of ?_ ?_ ?_ ?_ ?_<;>simp[qU,qG,qO,qH,qP,qK,qF,qI,qJ,qN,zX]<;>try omega
  have hkn:k≠0:=by omega
  (simp (maxSteps:=2000000) (disch:=first|omega|assumption) [zz,hp,hlt',hsc,h42,h42',hk0,hkn])
  try (repeat with_reducible refine om ?_)
  refine hN _ (k+1) ?_ ⟨by omega,go (by rw[hp];rfl)⟩ (by omega)
  refine Le.of ?_ ?_ ?_ ?_ ?_<;>simp[qU,qG,qO,qH,qP,qK,qF,qI,qJ,qN,zX]<;>try omega
theorem ziX (p:List UInt8) (hp:p.length≤1000000):PC Tryz.prog 94 [.av .str (.s p)] (.av .bool (.b (PZ p))):=by
 refine PC.of <| q7.of_vc laid mixed Tryz.func94 rfl cf0 (by kernel_rfl) (by simp[Tryz.ntmps94]) fun imm0 w0=>?_
 have hle:=QQ 47 p
 have hlen:∀x∈qT 47 p,x.length≤p.length:=fun x hx=>kU 47 p x hx
 obtain⟨ps,hps⟩:∃ps,ps=qT 47 p:=⟨_,rfl⟩
 (simp (maxSteps:=2000000) (disch:=first|omega|assumption) [zz])
 refine qL (u9 p (by omega)) rfl rfl (by simp) (by simp[qS,TV.er,AV.er]) ?_
 rw[←hps]at hle hlen ⊢
 have hpv:PZ p=(decide (ps.length≤16)&&ps.all y6):=by rw[hps];rfl
 (simp (maxSteps:=2000000) (disch:=first|omega|assumption) [zz,qX])
 refine AT.loop' (α:=Nat) (fun k=>St.of [(3,.av (.slice 9) (.sl .no (strs ps))),(8,.av (.slice 9) (.sl .no (strs ps))),(9,.av (.int .i64) (.i .i64 ps.length)),(10,.av (.int .i64) (.i .i64 k))] [] (fun _=>0) []) (fun k=>k≤ps.length∧(ps.take k).all y6=true) (fun k=>ps.length-k) 0 ?_ ?_ ?_
 ·refine Le.of ?_ ?_ ?_ ?_ ?_<;>simp[qU,qG,qO,qH,qP,qK,qF,qI,qJ,qN,zX]<;>try omega
 ·simp
 rintro k ⟨hk,hall⟩ KL hN hE
 refine qM (cf:=cf0) laid mixed _ _ _ (by kernel_rfl) ?_
 by_cases hlt:k<ps.length
 ·have hlt':(k:Int)<ps.length:=by omega
  obtain⟨x,hx⟩:∃x,x=ps[k]:=⟨_,rfl⟩
  have hgx:(strs ps)[k]?=some (.s x):=by rw[yH ps k hlt,hx]
  have hxl:=hlen x (by rw[hx];exact List.getElem_mem _)
  (simp (maxSteps:=2000000) (disch:=first|omega|assumption) [zz,hlt',qX,hgx])
  refine qL (zhe x (by omega)) rfl rfl (by simp) (by simp[qS,TV.er,AV.er]) ?_
  cases hb:y6 x
  ·have hr:PZ p=false:=by
    have:ps.all y6=false:=List.all_eq_false.2 ⟨x,by rw[hx];exact List.getElem_mem _,by simp[hb]⟩
    rw[hpv,this];simp
   (simp (maxSteps:=2000000) (disch:=first|omega|assumption) [zz])
   refine hE _ _ (by simp) ?_
   (simp (maxSteps:=2000000) (disch:=first|omega|assumption) [zz,Tryz.f94,hr])
  ·(simp (maxSteps:=2000000) (disch:=first|omega|assumption) [zz])
   refine hN _ (k+1) ?_ ⟨by omega,by rw[List.take_succ_eq_append_getElem hlt,List.all_append,hall,←hx];simp[hb]⟩ (by omega)
   refine Le.of ?_ ?_ ?_ ?_ ?_<;>simp[qU,qG,qO,qH,qP,qK,qF,qI,qJ,qN,zX]<;>try omega
 ·have hlt':¬(k:Int)<ps.length:=by omega
  rw[List.take_of_length_le (by omega)]at hall
  have hd:decide ((ps.length:Int)≤16)=decide (ps.length≤16):=decide_eq_decide.2 (by omega)
  have hr:PZ p=decide (ps.length≤16):=by rw[hpv,hall];simp
  (simp (maxSteps:=2000000) (disch:=first|omega|assumption) [zz,hlt'])
  refine hE _ _ (by simp) ?_
  (simp (maxSteps:=2000000) (disch:=first|omega|assumption) [zz,Tryz.f94,hr,qX,hd])
def Q3 (m k:Nat) (f:Nat→Bool):List AV:=(List.range m).map fun j=>.b (decide (j<k)&&f j)
theorem jN (m k:Nat) (f:Nat→Bool):(Q3 m k f).length=m:=by simp[Q3]
theorem Z9 {m k j:Nat} (f:Nat→Bool) (h1:j<m) (h2:j<k):(Q3 m k f)[j]?=some (.b (f j)):=by
 simp[Q3,h1,h2]
theorem zaF (m:Nat) (f:Nat→Bool):List.replicate m (AV.b false)=Q3 m 0 f:=by
 refine List.ext_getElem? fun i=>?_
 by_cases h:i<m<;>simp[Q3,h]
theorem zcZ {m k:Nat} {f:Nat→Bool} {v:Bool} (hv:f k=v):(Q3 m k f).set k (.b v)=Q3 m (k+1) f:=by
 refine List.ext_getElem? fun i=>?_
 rw[List.getElem?_set]
 by_cases h:i<m
 ·by_cases hi:k=i
  ·subst hi;simp[Q3,h,hv]
  ·have:decide (i<k+1)=decide (i<k):=decide_eq_decide.2 (by omega)
   simp[Q3,h,hi,this]
 ·by_cases hi:k=i
  ·subst hi;simp[Q3,h]
  ·simp[Q3,h,hi]
theorem G0 {m k:Nat} {f:Nat→Bool} (hv:f k=false):Q3 m k f=Q3 m (k+1) f:=by
 refine List.ext_getElem? fun i=>?_
 by_cases h:i<m
 ·by_cases hi:i=k
  ·subst hi;simp[Q3,h,hv]
  ·have:decide (i<k+1)=decide (i<k):=decide_eq_decide.2 (by omega)
   simp[Q3,h,this]
 ·simp[Q3,h]
theorem xF (m:Nat):(List.replicate m (AV.b false)).set 0 (.b true)=Q3 m m fun k=>decide (k=0):=by
 refine List.ext_getElem? fun i=>?_
 rw[List.getElem?_set]
 by_cases h:i<m
 ·cases i with
  | zero=>simp[Q3,h]
  | succ i=>simp[Q3,h]
 ·cases i with
  | zero=>simp[Q3,h]
  | succ i=>simp[Q3,h]
@[simp] theorem zjv (m k:Nat) (f:Nat→Bool):AV.ers (Q3 m k f)=Q3 m k f:=by
 rw[AV.ers_eq,Q3,List.map_map]
 exact List.map_congr_left fun a _=>by simp[AV.er]
@[simp] theorem zoQ (m k:Nat) (f:Nat→Bool):AV.erks (Q3 m k f)=Q3 m k f:=XQ _ (zjv m k f)
noncomputable def j9 (m k:Nat) (f:Nat→Bool):HObj:=.var (.arr m 4) (.agg (Q3 m k f))
set_option maxHeartbeats 8000000 in
theorem zlo (p s:List UInt8) (hp:p.length≤1000000000) (hs:s.length≤1000000000):PC Tryz.prog 96 [.av .str (.s p),.av .str (.s s)] (.av .bool (.b (wV p s))):=by
 refine PC.of (q7.sub (R:=fun r _=>r=.av .bool (.b (wV p s))) ?_ fun r H' h _=>⟨[],HSub.of_sub (List.nil_sublist _),h⟩)
 refine q7.of_vc laid mixed Tryz.func96 rfl cf0 (by kernel_rfl) (by simp[Tryz.ntmps96]) fun imm0 w0=>?_
 obtain⟨m,hm⟩:∃m,m=s.length+1:=⟨_,rfl⟩
 have hmI:(s.length:Int)+1=m:=by omega
 have hmn:s.length+1=m:=hm.symm
 have hm0:0<m:=by omega
 have hm0':(0:Int)<m:=by omega
 (simp (maxSteps:=2000000) (disch:=first|omega|assumption) [zz,hmI,hmn,hm0,hm0',xF])
 refine⟨by omega,by omega,?_⟩
 intro b0
 refine AT.loopV (α:=Nat × Nat × (Nat→Bool)) (fun x ver=>St.of [(0,.av .str (.s p)),(1,.av .str (.s s)),(5,.av (.slice 4) (.msl x.2.1 4 0 m m)),(6,.av (.int .i64) (.i .i64 x.1))] [] ver [(x.2.1,j9 m m x.2.2)])
  (fun x=>x.1≤p.length∧(wV p s=true↔Led (wV (p.drop x.1)) s x.2.2)) (fun x=>p.length-x.1) (0,b0,fun k=>decide (k=0)) ?_ ?_ ?_
 ·refine Le.of ?_ ?_ ?_ ?_ ?_<;>simp[qU,qG,qO,qH,qP,qK,qF,qI,qJ,qN,j9,xF]<;>try omega
 ·exact⟨by omega,by simpa using(zd6 (wV p) s).symm⟩
 rintro⟨i,b,at_⟩ ver ⟨hi,hled⟩ KL hN hE
 simp only at hi hled hN
 refine qM (cf:=cf0) laid mixed _ _ _ (by kernel_rfl) ?_
 by_cases hlt:i<p.length
 rotate_left
 ·have hlt':¬(i:Int)<p.length:=by omega
  rw[List.drop_of_length_le (by omega),ziQ]at hled
  have hr:wV p s=at_ s.length:=Bool.eq_iff_iff.2 hled
  have hg:=Z9 at_ (show s.length<m by omega) (show s.length<m by omega)
  have hsm:s.length<m:=by omega
  have hsm':(s.length:Int)<m:=by omega
  (simp (maxSteps:=2000000) (disch:=first|omega|assumption) [zz,hlt'])
  refine hE _ _ (by simp) ?_
  (simp (maxSteps:=2000000) (disch:=first|omega|assumption) [zz,Tryz.f96,j9,jN,hg,hr,hsm,hsm'])
 have hlt':(i:Int)<p.length:=by omega
 obtain⟨c,hc⟩:∃c,c=p[i]:=⟨_,rfl⟩
 have hpc:p[i]=c:=hc.symm
 rw[List.drop_eq_getElem_cons hlt,hpc,zlC]at hled
 (simp (maxSteps:=2000000) (disch:=first|omega|assumption) [zz,hlt',hmI,hmn,j9])
 refine⟨by omega,by omega,?_⟩
 intro b7 hb7
 have hb7':¬b=b7:=fun e=>hb7 e.symm
 obtain⟨f,hf⟩:∃f,f=ziM c s at_:=⟨_,rfl⟩
 rw[←hf]at hled
 refine AT.loopV (α:=Nat) (fun k ver=>St.of [(0,.av .str (.s p)),(1,.av .str (.s s)),(5,.av (.slice 4) (.msl b 4 0 m m)),(6,.av (.int .i64) (.i .i64 i)),(7,.av (.slice 4) (.msl b7 4 0 m m)),(8,.av (.int .i64) (.i .i64 k))] [] ver [(b7,j9 m k f),(b,j9 m m at_)])
  (fun k=>k≤m) (fun k=>m-k) 0 ?_ ?_ ?_
 ·refine Le.of ?_ ?_ ?_ ?_ ?_<;>simp[qU,qG,qO,qH,qP,qK,qF,qI,qJ,qN,j9,zaF m f]<;>try omega
 ·omega
 rintro k ver2 hk KL2 hN2 hE2
 refine qM (cf:=cf0) laid mixed _ _ _ (by kernel_rfl) ?_
 by_cases hkm:k<m
 rotate_left
 ·have hkm':¬(k:Int)≤s.length:=by omega
  have hke:k=m:=by omega
  subst hke
  (simp (maxSteps:=2000000) (disch:=first|omega|assumption) [zz,hkm'])
  refine hE2 _ _ (by simp) ?_
  (simp (maxSteps:=2000000) (disch:=first|omega|assumption) [zz])
  refine hN _ (i+1,b7,f) ?_ ⟨by omega,hled⟩ (by simp only;omega)
  refine Le.of ?_ ?_ ?_ ?_ ?_<;>simp[qU,qG,qO,qH,qP,qK,qF,qI,qJ,qN,j9]<;>try omega
 have hkm':(k:Int)<m:=by omega
 have hks:(k:Int)≤s.length:=by omega
 have hgA:=Z9 at_ hkm hkm
 have j1:∀v,f k=v→(Q3 m k f).set k (.b v)=Q3 m (k+1) f:=fun v h=>zcZ h
 by_cases h42:c=42
 ·subst h42
  have hfs:f=VK at_:=by rw[hf,ziM,if_pos rfl]
  cases k with
  | zero =>
   have hz:(0:Int)≤s.length:=by omega
   have hst:=j1 (at_ 0) (by rw[hfs];rfl)
   cases ha:at_ 0
   ·rw[ha]at hgA hst
    (simp (maxSteps:=2000000) (disch:=first|omega|assumption) [zz,j9,jN,hlt,hlt',hpc,hks,hkm,hkm',hz,hm0,hm0',hgA,hst,hb7,hb7'])
    try (repeat with_reducible refine om ?_)
    refine hN2 _ 1 ?_ (by omega) (by omega)
    refine Le.of ?_ ?_ ?_ ?_ ?_<;>simp[qU,qG,qO,qH,qP,qK,qF,qI,qJ,qN,j9,hst]<;>try omega
   ·rw[ha]at hgA hst
    (simp (maxSteps:=2000000) (disch:=first|omega|assumption) [zz,j9,jN,hlt,hlt',hpc,hks,hkm,hkm',hz,hm0,hm0',hgA,hst,hb7,hb7'])
    try (repeat with_reducible refine om ?_)
    refine hN2 _ 1 ?_ (by omega) (by omega)
    refine Le.of ?_ ?_ ?_ ?_ ?_<;>simp[qU,qG,qO,qH,qP,qK,qF,qI,qJ,qN,j9,hst]<;>try omega
  | succ j =>
   have hj:j<m:=by omega
   have hj':(j:Int)<m:=by omega
   have hj1:(j:Int)+1<m:=by omega
   have hj2:(j:Int)+1≤s.length:=by omega
   have hj3:(j:Int)+1-1=j:=by omega
   have hj4:(0:Int)<(j:Int)+1:=by omega
   have hj5:(0:Int)≤(j:Int)+1:=by omega
   have hgB:=Z9 f hj (show j<j+1 by omega)
   have hst:=j1 (at_ (j+1)||f j) (by rw[hfs];rfl)
   cases ha:at_ (j+1)
   ·rw[ha]at hgA hst
    rw[Bool.false_or]at hst
    cases hb:f j
    ·rw[hb]at hgB hst
     (simp (maxSteps:=2000000) (disch:=first|omega|assumption) [zz,j9,jN,hlt,hlt',hpc,hks,hkm,hkm',hj,hj',hj1,hj2,hj3,hj4,hj5,hgA,hgB,hst,hb7,hb7'])
     try (repeat with_reducible refine om ?_)
     refine hN2 _ (j+1+1) ?_ (by omega) (by omega)
     refine Le.of ?_ ?_ ?_ ?_ ?_<;>simp[qU,qG,qO,qH,qP,qK,qF,qI,qJ,qN,j9,hst]<;>try omega
    ·rw[hb]at hgB hst
     (simp (maxSteps:=2000000) (disch:=first|omega|assumption) [zz,j9,jN,hlt,hlt',hpc,hks,hkm,hkm',hj,hj',hj1,hj2,hj3,hj4,hj5,hgA,hgB,hst,hb7,hb7'])
     try (repeat with_reducible refine om ?_)
     refine hN2 _ (j+1+1) ?_ (by omega) (by omega)
     refine Le.of ?_ ?_ ?_ ?_ ?_<;>simp[qU,qG,qO,qH,qP,qK,qF,qI,qJ,qN,j9,hst]<;>try omega
   ·rw[ha]at hgA hst
    rw[Bool.true_or]at hst
    (simp (maxSteps:=2000000) (disch:=first|omega|assumption) [zz,j9,jN,hlt,hlt',hpc,hks,hkm,hkm',hj,hj',hj1,hj2,hj3,hj4,hj5,hgA,hst,hb7,hb7'])
    try (repeat with_reducible refine om ?_)
    refine hN2 _ (j+1+1) ?_ (by omega) (by omega)
    refine Le.of ?_ ?_ ?_ ?_ ?_<;>simp[qU,qG,qO,qH,qP,qK,qF,qI,qJ,qN,j9,hst]<;>try omega
 have h42':¬(c.toNat:Int)=42:=by have:=YH (n:=42) (by omega) h42;simpa using this
 have hfl:f=zbv (fun x=>decide (c=63)||decide (c=x)) s at_:=by rw[hf,ziM,if_neg h42]
 cases k with
 | zero =>
  have hz:(0:Int)≤s.length:=by omega
  have hsk:Q3 m 0 f=Q3 m 1 f:=G0 (by rw[hfl];rfl)
  (simp (maxSteps:=2000000) (disch:=first|omega|assumption) [zz,j9,jN,hlt,hlt',hpc,h42,h42',hks,hkm,hkm',hz,hm0,hm0'])
  try (repeat with_reducible refine om ?_)
  refine hN2 _ 1 ?_ (by omega) (by omega)
  refine Le.of ?_ ?_ ?_ ?_ ?_<;>simp[qU,qG,qO,qH,qP,qK,qF,qI,qJ,qN,j9,hsk]<;>try omega
 | succ j =>
  have hj:j<m:=by omega
  have hjs:j<s.length:=by omega
  have hjs':(j:Int)<s.length:=by omega
  have hj':(j:Int)<m:=by omega
  have hj1:(j:Int)+1<m:=by omega
  have hj2:(j:Int)+1≤s.length:=by omega
  have hj3:(j:Int)+1-1=j:=by omega
  have hj4:(0:Int)<(j:Int)+1:=by omega
  have hj5:(0:Int)≤(j:Int)+1:=by omega
  have hgJ:=Z9 at_ hj hj
  obtain⟨d,hd⟩:∃d,d=s[j]:=⟨_,rfl⟩
  have hsd:s[j]=d:=hd.symm
  have hfk:f (j+1)=(at_ j&&(decide (c=63)||decide (c=d))):=by
   rw[hfl];simp only[zbv,List.getElem?_eq_getElem hjs,hsd]
  cases ha:at_ j
  ·rw[ha]at hgJ hfk
   have hsk:Q3 m (j+1) f=Q3 m (j+1+1) f:=G0 (by rw[hfk];rfl)
   (simp (maxSteps:=2000000) (disch:=first|omega|assumption) [zz,j9,jN,hlt,hlt',hpc,h42,h42',hks,hkm,hkm',hj,hj',hj1,hj2,hj3,hj4,hj5,hgJ,hb7,hb7'])
   try (repeat with_reducible refine om ?_)
   refine hN2 _ (j+1+1) ?_ (by omega) (by omega)
   refine Le.of ?_ ?_ ?_ ?_ ?_<;>simp[qU,qG,qO,qH,qP,qK,qF,qI,qJ,qN,j9,hsk]<;>try omega
  rw[ha]at hgJ hfk
  by_cases h63:c=63
  ·subst h63
   have hst:=j1 true (by rw[hfk];rfl)
   (simp (maxSteps:=2000000) (disch:=first|omega|assumption) [zz,j9,jN,hlt,hlt',hpc,hks,hkm,hkm',hj,hj',hj1,hj2,hj3,hj4,hj5,hgJ,hst,hb7,hb7'])
   try (repeat with_reducible refine om ?_)
   refine hN2 _ (j+1+1) ?_ (by omega) (by omega)
   refine Le.of ?_ ?_ ?_ ?_ ?_<;>simp[qU,qG,qO,qH,qP,qK,qF,qI,qJ,qN,j9,hst]<;>try omega
  have h63':¬(c.toNat:Int)=63:=by have:=YH (n:=63) (by omega) h63;simpa using this
  by_cases hcd:c=d
  ·have hst:=j1 true (by rw[hfk,decide_eq_true hcd];simp)
   have hsc:s[j]=c:=by rw[hsd,hcd]
   (simp (maxSteps:=2000000) (disch:=first|omega|assumption) [zz,j9,jN,hlt,hlt',hpc,h42,h42',h63,h63',hsc,hjs,hjs',hks,hkm,hkm',hj,hj',hj1,hj2,hj3,hj4,hj5,hgJ,hst,hb7,hb7'])
   try (repeat with_reducible refine om ?_)
   refine hN2 _ (j+1+1) ?_ (by omega) (by omega)
   refine Le.of ?_ ?_ ?_ ?_ ?_<;>simp[qU,qG,qO,qH,qP,qK,qF,qI,qJ,qN,j9,hst]<;>try omega
  ·have hcd':¬(c.toNat:Int)=d.toNat:=fun h=>hcd (UInt8.toNat_inj.1 (by omega))
   have hcd2:¬c.toNat=d.toNat:=fun h=>hcd (UInt8.toNat_inj.1 h)
   have hsk:Q3 m (j+1) f=Q3 m (j+1+1) f:=G0 (by rw[hfk];simp[h63,hcd])
   (simp (maxSteps:=2000000) (disch:=first|omega|assumption) [zz,j9,jN,hlt,hlt',hpc,h42,h42',h63,h63',hsd,hcd,hcd',hcd2,hjs,hjs',hks,hkm,hkm',hj,hj',hj1,hj2,hj3,hj4,hj5,hgJ,hb7,hb7'])
   try (repeat with_reducible refine om ?_)
   refine hN2 _ (j+1+1) ?_ (by omega) (by omega)
   refine Le.of ?_ ?_ ?_ ?_ ?_<;>simp[qU,qG,qO,qH,qP,qK,qF,qI,qJ,qN,j9,hsk]<;>try omega
end Go.Proofs.YthgocigdldgpgaaGreatDoor
end
section
set_option maxRecDepth 100000
namespace Go.Proofs.YthgocigdldgpgaaGreatDoor
open Go Go.Ab
open Classical
variable [Sel]
theorem zh6 (p:List (List UInt8)) (k:Nat) (h:k<p.length):(strs p)[k]?=some (.s p[k]):=by simp[strs,List.getElem?_eq_getElem h]
set_option maxHeartbeats 8000000 in
theorem zl8 (l:List UInt8) (hl:l.length≤1000000000):PC Tryz.prog 79 [.av .str (.s l)] (.av .bool (.b (yV l))):=by
 refine PC.of <| q7.of_vc laid mixed Tryz.func79 rfl cf0 (by kernel_rfl) (by simp[Tryz.ntmps79]) fun imm0 w0=>?_
 (simp (maxSteps:=2000000) (disch:=first|omega|assumption) [zz])
 refine qL (u9 l hl) rfl rfl (by simp) (by simp[qS,TV.er,AV.er]) ?_
 (simp (maxSteps:=2000000) (disch:=first|omega|assumption) [zz])
 have hle:=QQ 47 l
 obtain⟨p,hp⟩:∃p,p=qT 47 l:=⟨_,rfl⟩
 have hlen:∀x∈p,x.length≤l.length:=fun x hx=>kU 47 l x (by rw[←hp];exact hx)
 rw[←hp]at hle ⊢
 refine AT.loop' (α:=Nat) (fun k=>St.of [(3,.av (.slice 9) (.sl .no (strs p))),(4,.av (.int .i64) (.i .i64 k))] [] (fun _=>0) []) (fun k=>k≤p.length∧∀x∈p.take k,Q0 x=true) (fun k=>p.length-k) 0 ?_ ?_ ?_
 ·refine Le.of ?_ ?_ ?_ ?_ ?_<;>simp[qU,qG,qO,qH,qP,qK,qF,qI,qJ,qN,zX]<;>try omega
 ·simp
 rintro k ⟨hk,hall⟩ KL hN hE
 refine qM (cf:=cf0) laid mixed _ _ _ (by kernel_rfl) ?_
 by_cases hlt:k<p.length
 ·have hlt':(k:Int)<p.length:=by omega
  have hx:=hlen p[k] (List.getElem_mem _)
  have hg:=zh6 p k hlt
  (simp (maxSteps:=2000000) (disch:=first|omega|assumption) [zz,hlt',hg])
  refine qL (zcA p[k] (by omega)) rfl rfl (by simp) (by simp[qS,TV.er,AV.er]) ?_
  cases hpv:Q0 p[k]
  ·(simp (maxSteps:=2000000) (disch:=first|omega|assumption) [zz])
   refine hE _ _ (by simp) ?_
   have:yV l=false:=by
    simp only[yV,Bool.and_eq_false_iff]
    right
    rw[List.all_eq_false]
    exact⟨p[k],by rw[←hp];exact List.getElem_mem _,by simp[hpv]⟩
   (simp (maxSteps:=2000000) (disch:=first|omega|assumption) [zz,Tryz.f79,this])
  ·(simp (maxSteps:=2000000) (disch:=first|omega|assumption) [zz])
   refine hN _ (k+1) ?_ ⟨by omega,by rw[Z2 hlt];exact⟨hall,hpv⟩⟩ (by omega)
   refine Le.of ?_ ?_ ?_ ?_ ?_<;>simp[qU,qG,qO,qH,qP,qK,qF,qI,qJ,qN,zX]<;>try omega
 ·have hlt':¬(k:Int)<p.length:=by omega
  (simp (maxSteps:=2000000) (disch:=first|omega|assumption) [zz,hlt'])
  refine hE _ _ (by simp) ?_
  rw[List.take_of_length_le (by omega)]at hall
  have hal:p.all Q0=true:=by simpa using hall
  (simp (maxSteps:=2000000) (disch:=first|omega|assumption) [zz,Tryz.f79,yV,←hp,hal])
  omega
end Go.Proofs.YthgocigdldgpgaaGreatDoor
end
