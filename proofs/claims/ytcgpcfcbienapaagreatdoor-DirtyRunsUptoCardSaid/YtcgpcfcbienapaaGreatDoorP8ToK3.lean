/- path.May, path.Under. No condition beyond each theorem's own. -/
import Derived.Test.YtcgpcfcbienapaaGreatDoorP0ToP7
import Derived.Test.YtcgpcfcbienapaaGreatDoorB0
import Derived.Test.YtcgpcfcbienapaaGreatDoorAbXToY
set_option linter.unusedSimpArgs false
set_option linter.unusedVariables false
set_option linter.unusedSectionVars false
section
set_option maxRecDepth 100000
namespace Go.Proofs.YtcgpcfcbienapaaGreatDoor
open Go Go.Ab
open Classical
variable [Sel]
@[simp] theorem znA:qZ Tryz.prog 45=true:=by kernel_rfl
@[simp] theorem zrT:z8 Tryz.prog (.func 45)=false:=q9 znA
@[simp] theorem zor:qZ Tryz.prog 22=true:=by kernel_rfl
@[simp] theorem zsb:z8 Tryz.prog (.func 22)=false:=q9 zor
def yV (l:List UInt8):Bool:=decide ((qT 47 l).length≤16)&&(qT 47 l).all Q0
theorem kU (c:UInt8):∀l x,x∈qT c l→x.length≤l.length
 | [],x,h=>by simp[qT]at h;simp[h]
 | b::l,x,h=>by
  unfold qT at h
  split at h
  ·rcases List.mem_cons.1 h with rfl|h
   ·simp
   ·have:=kU c l x h;simp;omega
  ·cases hs:qT c l with
   | nil=>exact absurd hs (JJ c l)
   | cons y r =>
    rw[hs]at h
    rcases List.mem_cons.1 h with rfl|h
    ·have:=kU c l y (by rw[hs];simp);simp;omega
    ·have:=kU c l x (by rw[hs];simp[h]);simp;omega
abbrev ziU:Cfg:=⟨fun n=>n==2||n==3,fun _=>false⟩
def zrP (l:List UInt8) (b2 b3:Nat) (k:Nat) (H:q8):Prop :=
 k≤16∧(∀i,i<k→∀x,(qT 47 l)[i]?=some x→Q0 x=true)∧H=[(b3,.var (.int .i64) (.i .i64 k)),(b2,.var .bool (.b false))]
def zrU (l:List UInt8) (b2 b3:Nat) (r:Loop) (H:q8):Prop :=
 yV l=false∧r.state=.done∧r.pending=some .ret∧∃n,H=[(b3,.var (.int .i64) (.i .i64 n)),(b2,.var .bool (.b false))]
set_option maxHeartbeats 8000000 in
theorem DL (l:List UInt8) (hl:l.length≤9223372036854775807):PC Tryz.prog 45 [.av .str (.s l)] (.av .bool (.b (yV l))):=by
 refine zow Tryz.func45 ziU fun imm0 w0=>?_
 simp (disch:=omega) [zz]
 intro b2 b3 hb3
 refine qE (R:=zgO l) [] [(b3,.var (.int .i64) (.i .i64 0)),(b2,.var .bool (.b false))] (by simp) rfl (by simp[qQ]) (by simp) ?_ ?_
 ·exact q7.args (zdH l) (by simp[qS,TV.er,AV.er,coC])
 rintro r H' ⟨c1,c2,c3,rfl,rfl⟩ hnd
 refine⟨_,HSub.refl _,?_⟩
 simp (disch:=omega) [zz]
 refine d7 rfl rfl (c1:=c1) (c2:=c2) (c3:=c3) hl (Hr:=[(b3,.var (.int .i64) (.i .i64 0)),(b2,.var .bool (.b false))]) rfl ?_ rfl rfl (by simp) ?_
 ·simp only[Y5]
  exact List.Perm.trans (List.Perm.swap _ _ _) (List.Perm.cons _ (List.Perm.swap _ _ _))
 intro y D r i0 w0' hy hready hpend
 simp at hy
 obtain⟨_,_,_,hy3,hy2⟩:=hy
 have hy3':¬b3=y:=fun e=>hy3 e.symm
 have hy2':¬b2=y:=fun e=>hy2 e.symm
 have hb3':¬b2=b3:=fun e=>hb3 e.symm
 refine⟨zrP l b2 b3,zrU l b2 b3,?_,?_,?_,?_,?_,?_⟩
 ·rintro k H ⟨_,_,rfl⟩;rfl
 ·rintro k H ⟨_,_,_,n,rfl⟩;rfl
 ·exact⟨by omega,fun i h=>by omega,rfl⟩
 ·rintro k x H hx ⟨hk,hall,rfl⟩ imm w
  have hxl:x.length≤9223372036854775807:=Nat.le_trans (kU 47 l x (List.mem_of_getElem? hx)) hl
  refine qM (cf:=ziU) laid mixed _ _ _ (by kernel_rfl) ?_
  simp (disch:=omega) [zz,QW,yL,vS]
  refine qM (cf:=ziU) laid mixed _ _ _ (by kernel_rfl) ?_
  have hlt:k<(qT 47 l).length:=(List.getElem?_eq_some_iff.1 hx).1
  by_cases h16:k<16
  ·have h1:¬(16:Int)<(k:Int)+1:=by omega
   simp (disch:=omega) [zz,QW,yL,vS,hy3,hy3',hy2,hy2',hb3,hb3',h1]
   refine zcv (zmc x hxl) ?_
   cases hp:Q0 x
   ·simp (disch:=omega) [zz,hy3,hy3',hy2,hy2',hb3,hb3',WR,uV,ziq]
    refine⟨_,_,⟨rfl,rfl⟩,?_,rfl,rfl,_,rfl⟩
    simp only[yV,Bool.and_eq_false_iff]
    right
    rw[List.all_eq_false]
    exact⟨x,List.mem_of_getElem? hx,by simp[hp]⟩
   ·simp (disch:=omega) [zz,hy3,hy3',hy2,hy2',hb3,hb3',WR,uV,ziq]
    refine⟨_,⟨congrArg (fun r=>HObj.lrec r i0 w0') (u7 hready hpend),rfl⟩,by omega,?_,by simp⟩
    intro i hi x' hx'
    rcases Nat.lt_or_ge i k with h|h
    ·exact hall i h x' hx'
    ·have:i=k:=by omega
     subst this
     rw[hx]at hx';cases hx';exact hp
  ·have h1:(16:Int)<(k:Int)+1:=by omega
   simp (disch:=omega) [zz,QW,yL,vS,hy3,hy3',hy2,hy2',hb3,hb3',h1,WR,uV,ziq]
   refine⟨_,_,⟨rfl,rfl⟩,?_,rfl,rfl,_,rfl⟩
   simp only[yV,Bool.and_eq_false_iff]
   left
   simp;omega
 ·rintro H1 ⟨hk,hall,rfl⟩
  simp (disch:=omega) [zz]
  simp (disch:=omega) [zz,hb3,hb3',hy3,hy2,yV,Tryz.f45]
  refine⟨hk,fun x hx=>?_⟩
  obtain⟨i,hi⟩:=List.getElem?_of_mem hx
  exact hall i (List.getElem?_eq_some_iff.1 hi).1 x hi
 ·rintro r' H1 ⟨hm,h1,h2,n,rfl⟩
  refine⟨by rw[h1];simp,?_⟩
  rw[h2]
  simp only[PR]
  simp (disch:=omega) [zz,hb3,hb3',hm,Tryz.f45]
def zuT (l d:List UInt8):Bool:=yV l&&(decide (d=[])||(yV d&&Q8 l (d++[47])))
set_option maxHeartbeats 4000000 in
theorem zE6 (l d:List UInt8) (hl:l.length≤9223372036854775807) (hd:d.length≤1000):PC Tryz.prog 22 [.av .str (.s l),.av .str (.s d)] (.av .bool (.b (zuT l d))):=by
 refine zow Tryz.func22 cf0 fun imm0 w0=>?_
 simp (disch:=omega) [zz]
 refine zcv (DL l hl) ?_
 cases hm:yV l
 ·simp (disch:=omega) [zz,Tryz.f22,zuT,hm]
 by_cases he:d=[]
 ·simp (disch:=omega) [zz,he,Tryz.f22,zuT,hm]
 simp (disch:=omega) [zz,he]
 refine zcv (DL d (by omega)) ?_
 cases hm2:yV d
 ·simp (disch:=omega) [zz,Tryz.f22,zuT,hm,hm2,he]
 simp (disch:=omega) [zz,he]
 refine⟨by omega,?_⟩
 refine zcv (YW l (d++[47]) hl (by simp;omega)) ?_
 simp (disch:=omega) [zz,Tryz.f22,zuT,hm,hm2,he]
def strs (l:List (List UInt8)):List AV:=l.map AV.s
theorem QQ (c:UInt8):∀l,(qT c l).length≤l.length+1
 | []=>by simp[qT]
 | b::l=>by
  have:=QQ c l
  unfold qT
  split
  ·simp;omega
  ·cases hs:qT c l with
   | nil=>simp
   | cons y r=>rw[hs]at this;simp at this ⊢;omega
@[simp] theorem zn2 (l:List (List UInt8)):(strs l).length=l.length:=by simp[strs]
theorem Z6 (a b:List (List UInt8)):strs (a++b)=strs a++strs b:=by simp[strs]
theorem YH {x:UInt8} {n:Nat} (hn:n<256) (h:¬x=UInt8.ofNat n):¬(x.toNat:Int)=n:=fun e=>h (by
 apply UInt8.toNat_inj.1
 simp[Nat.mod_eq_of_lt hn];omega)
@[simp] theorem zoN (l:List (List UInt8)):AV.erks (strs l)=strs l:=by simp[strs,AV.erks_eq,AV.erk,Function.comp_def]
@[simp] theorem zjB (l:List (List UInt8)):AV.ers (strs l)=strs l:=by simp[strs,AV.ers_eq,AV.er,Function.comp_def]
theorem YD (n:Nat):List.replicate n (AV.s [])=strs (List.replicate n []):=by simp[strs]
def vV (c:UInt8):Bool:=decide (c=32)||decide (c=9)
def kA (cur:List UInt8):List UInt8→List (List UInt8)
 | []=>if cur=[] then [] else [cur]
 | c::r=>if vV c=true then(if cur=[] then kA [] r else cur::kA [] r) else kA (cur++[c]) r
def zR (l:List UInt8):List (List UInt8):=kA [] l
theorem UG:∀(a:List UInt8) {cur r:List UInt8},(∀c∈a,vV c=false)→kA cur (a++r)=kA (cur++a) r
 | [],cur,r,_=>by simp
 | c::a,cur,r,h=>by
  simp_all[kA,UG]
theorem uI:∀ {l cur:List UInt8},(kA cur l).length≤l.length+1
 | [],cur=>by grind [kA]
 | c::r,cur=>by
  unfold kA
  split
  ·split
   ·have:=uI (l:=r) (cur:=[]);simp;omega
   ·have:=uI (l:=r) (cur:=[]);simp;omega
  ·have:=uI (l:=r) (cur:=cur++[c]);simp;omega
theorem ZI:∀ {l cur x:List UInt8},x∈kA cur l→x≠[]∧x.length≤cur.length+l.length
 | [],cur,x,h=>by
  simp_all[kA]
 | c::r,cur,x,h=>by
  unfold kA at h
  split at h
  ·split at h
   ·have:=ZI h;grind
   ·rename_i hc
    rcases List.mem_cons.1 h with rfl|h
    ·simp_all
    ·have:=ZI h;grind
  ·have:=ZI h;grind
theorem zh0 {l:List UInt8} {k:Nat} {b:UInt8} (h:l[k]?=some b) (hb:¬b.toNat<128):1≤(QV l k).2∧k+(QV l k).2≤l.length∧∀c∈(l.drop k).take (QV l k).2,128≤c.toNat:=by
 have hkl:k<l.length:=(List.getElem?_eq_some_iff.1 h).1
 have h0:((ByteArray.mk l.toArray).get! (k+0)).toNat=b.toNat:=by simp_all[zmt]
 have hsz:(ByteArray.mk l.toArray).size=l.length:=by rfl
 have cont:∀j,(decide (k+j<(ByteArray.mk l.toArray).size)&&(((ByteArray.mk l.toArray).get! (k+j)).toNat / 64==2))=true→k+j<l.length∧∀c,l[k+j]?=some c→128≤c.toNat:=by
  intro j hj
  simp only[Bool.and_eq_true,decide_eq_true_eq,beq_iff_eq,hsz]at hj
  grind [zmt]
 have fin:∀n,1≤n→(∀j,1≤j→j<n→k+j<l.length∧∀c,l[k+j]?=some c→128≤c.toNat)→k+n≤l.length∧∀c∈(l.drop k).take n,128≤c.toNat:=by
  intro n hn hj
  have hlen:k+n≤l.length:=by
   by_cases h1:n=1
   ·omega
   ·have:=(hj (n-1) (by omega) (by omega)).1;omega
  refine⟨hlen,fun c hc=>?_⟩
  obtain⟨i,hi,rfl⟩:=List.getElem_of_mem hc
  grind
 have one:1≤1∧k+1≤l.length∧∀c∈(l.drop k).take 1,128≤c.toNat:=⟨by omega,fin 1 (by omega) fun j h1 h2=>by omega⟩
 unfold QV Utf8.decode
 simp only[h0]
 rw[if_neg (by omega)]
 split
 ·grind
 ·split
  ·grind
  grind
def cP (r:Nat):Bool:=decide (r=32)||decide (r=9)
theorem zi2 (c:UInt8):cP c.toNat=vV c:=by
 unfold cP vV
 have h1:c.toNat=32↔c=32:=⟨fun h=>by
                         have:c=UInt8.ofNat c.toNat:=by simp
                         rw[this,h];rfl,fun h=>by rw[h];rfl⟩
 have h2:c.toNat=9↔c=9:=⟨fun h=>by
                        have:c=UInt8.ofNat c.toNat:=by simp
                        rw[this,h];rfl,fun h=>by rw[h];rfl⟩
 simp_all
@[simp] theorem zAm:qZ Tryz.prog 172=true:=by kernel_rfl
@[simp] theorem zAV:z8 Tryz.prog (.func 172)=false:=q9 zAm
@[simp] theorem zzN:qZ Tryz.prog 171=true:=by kernel_rfl
@[simp] theorem zAE:z8 Tryz.prog (.func 171)=false:=q9 zzN
@[simp] theorem zlg:qZ Tryz.prog 130=true:=by kernel_rfl
@[simp] theorem zq2:z8 Tryz.prog (.func 130)=false:=q9 zlg
theorem zl1 (n:Nat) (hn:n≤1114111):PC Tryz.prog 172 [.av (.int .i32) (.i .i32 n)] (.av .bool (.b (cP n))):=by
 refine zow Tryz.func172 cf0 fun imm0 w0=>?_
 by_cases h1:n=32
 ·subst h1
  simp (disch:=omega) [zz,Tryz.f172,cP]
 ·have h1':¬(n:Int)=32:=by omega
  by_cases h2:n=9
  ·subst h2
   simp (disch:=omega) [zz,Tryz.f172,cP]
  ·have h2':¬(n:Int)=9:=by omega
   simp (disch:=omega) [zz,h1,h1',h2,h2',Tryz.f172,cP]
theorem uC (a b:List AV):AV.erks (a++b)=AV.erks a++AV.erks b:=by simp[AV.erks_eq]
def JK (j:List AV):Prop:=AV.erks j=j
theorem JK.app {a b:List AV} (ha:JK a) (hb:JK b):JK (a++b):=by unfold JK at *;rw[uC,ha,hb]
theorem JK.nil:JK []:=rfl
theorem JK.take {a:List AV} (h:JK a) (n:Nat):JK (a.take n):=by
 unfold JK at *;rw[AV.erks_eq]at *;rw[List.map_take,h]
theorem JK.drop {a:List AV} (h:JK a) (n:Nat):JK (a.drop n):=by
 unfold JK at *;rw[AV.erks_eq]at *;rw[List.map_drop,h]
theorem JK.rep {z:AV} (h:z.erk=z) (n:Nat):JK (List.replicate n z):=by
 unfold JK;rw[AV.erks_eq,List.map_replicate,h]
def zcx (p:Nat × Nat):AV:=.agg [.i .i64 p.1,.i .i64 p.2]
def sps (l:List (Nat × Nat)):List AV:=l.map zcx
theorem zge (a b:List (Nat × Nat)):sps (a++b)=sps a++sps b:=by simp[sps]
theorem yT (a:List (Nat × Nat)):(sps a).length=a.length:=by simp[sps]
def X0 (l:List UInt8) (p:Nat × Nat):List UInt8:=(l.drop p.1).take (p.2-p.1)
structure XG (l:List UInt8) (k:Nat) (sp:List (Nat × Nat)) (st:Int):Prop where
 le:k≤l.length
 few:sp.length≤k
 ins:∀p∈sp,p.1≤p.2∧p.2≤l.length
 no:st<0→zR l=sp.map (X0 l)++kA [] (l.drop k)
 yes:∀i:Nat,st=i→i<k∧zR l=sp.map (X0 l)++kA (X0 l (i,k)) (l.drop k)
theorem XG.start (l:List UInt8):XG l 0 [] (-1):=⟨by omega,by simp,by simp,fun _=>by simp[zR],fun i h=>by omega⟩
theorem zjd {l:List UInt8} {k:Nat} {b:UInt8} (h:l[k]?=some b):l.drop k=b::l.drop (k+1):=by
 obtain⟨hk,rfl⟩:=List.getElem?_eq_some_iff.1 h
 exact List.drop_eq_getElem_cons hk
theorem zfG {l:List UInt8} {i k:Nat} (h:i<k) (hk:k≤l.length):X0 l (i,k)≠[]:=by
 intro e
 have:=congrArg List.length e
 simp[X0]at this
 omega
theorem XG.sepYes {l:List UInt8} {k i:Nat} {sp:List (Nat × Nat)} {b:UInt8} (h:XG l k sp i) (hb:l[k]?=some b) (hs:vV b=true):XG l (k+1) (sp++[(i,k)]) (-(i:Int)-1):=by
 obtain⟨h1,h2⟩:=h.yes i rfl
 have hk:=(List.getElem?_eq_some_iff.1 hb).1
 have hf:=h.few
 refine⟨by omega,by simp;omega,fun p hp=>?_,fun _=>?_,fun j hj=>by omega⟩
 ·rcases List.mem_append.1 hp with hp|hp
  ·exact h.ins p hp
  ·simp only[List.mem_singleton]at hp;subst hp;exact⟨by simp only;omega,by simp only;omega⟩
 ·rw[h2,zjd hb,kA,if_pos hs,if_neg (zfG h1 (by omega))]
  simp
theorem XG.sepNo {l:List UInt8} {k:Nat} {sp:List (Nat × Nat)} {b:UInt8} {st:Int} (h:XG l k sp st) (h0:st<0) (hb:l[k]?=some b) (hs:vV b=true):XG l (k+1) sp st:=by
 have hk:=(List.getElem?_eq_some_iff.1 hb).1
 have hf:=h.few
 refine⟨by omega,by omega,h.ins,fun _=>?_,fun j hj=>by omega⟩
 rw[h.no h0,zjd hb,kA,if_pos hs,if_pos rfl]
theorem zga {l:List UInt8} {i k w:Nat} (h:i≤k):X0 l (i,k)++(l.drop k).take w=X0 l (i,k+w):=by
 unfold X0
 simp only
 rw[show k+w-i=(k-i)+w by omega,List.take_add,List.drop_drop,show i+(k-i)=k by omega]
theorem XG.run {l:List UInt8} {k w:Nat} {sp:List (Nat × Nat)} {st:Int} (h:XG l k sp st) (hw:1≤w) (hk:k+w≤l.length) (hs:∀c∈(l.drop k).take w,vV c=false):XG l (k+w) sp (if st<0 then(k:Int) else st):=by
 have hf:=h.few
 have hd:l.drop k=(l.drop k).take w++l.drop (k+w):=by
  conv=>lhs;rw[←List.take_append_drop w (l.drop k)]
  rw[List.drop_drop]
 refine⟨hk,by omega,h.ins,fun h0=>?_,fun i hi=>?_⟩
 ·split at h0<;>omega
 ·by_cases h0:st<0
  ·rw[if_pos h0]at hi
   have hik:i=k:=by omega
   subst hik
   refine⟨by omega,?_⟩
   rw[h.no h0,hd,UG _ hs]
   have:=zga (l:=l) (i:=i) (k:=i) (w:=w) (Nat.le_refl _)
   have e:X0 l (i,i)=[]:=by simp[X0]
   rw[e]at this
   rw[←this]
  ·rw[if_neg h0]at hi
   obtain⟨h1,h2⟩:=h.yes i hi
   refine⟨by omega,?_⟩
   rw[h2,hd,UG _ hs,zga (by omega)]
theorem XG.endNo {l:List UInt8} {sp:List (Nat × Nat)} {st:Int} (h:XG l l.length sp st) (h0:st<0):zR l=sp.map (X0 l):=by
 rw[h.no h0];simp[kA]
theorem XG.endYes {l:List UInt8} {sp:List (Nat × Nat)} {i:Nat} (h:XG l l.length sp i):zR l=(sp++[(i,l.length)]).map (X0 l)∧i<l.length:=by
 obtain⟨h1,h2⟩:=h.yes i rfl
 refine⟨?_,h1⟩
 rw[h2]
 simp only[List.drop_length,kA]
 rw[if_neg (zfG h1 (Nat.le_refl _))]
 simp
theorem zmX {i:Nat} (h:i<9223372036854775808):IntKind.i64.wrap (((((if IntKind.i64.signed=true then -1 else 9223372036854775807):Int) % 2 ^ IntKind.i64.bits).toNat ^^^ i % 2 ^ IntKind.i64.bits:Nat):Int)=-(i:Int)-1:=by
 have e:(((if IntKind.i64.signed=true then -1 else 9223372036854775807):Int) % 2 ^ IntKind.i64.bits).toNat=18446744073709551615:=by rfl
 have e2:i % 2 ^ IntKind.i64.bits=i:=Nat.mod_eq_of_lt (by show i<2 ^ 64;omega)
 rw[e,e2]
 have h1:(BitVec.allOnes 64 ^^^ BitVec.ofNat 64 i).toNat=18446744073709551615-i:=by
  rw[BitVec.xor_comm,BitVec.xor_allOnes,BitVec.toNat_not,BitVec.toNat_ofNat,Nat.mod_eq_of_lt (by omega)]
 have h2:(BitVec.allOnes 64 ^^^ BitVec.ofNat 64 i).toNat=18446744073709551615 ^^^ i:=by
  rw[BitVec.toNat_xor,BitVec.toNat_allOnes,BitVec.toNat_ofNat,Nat.mod_eq_of_lt (by omega)]
 rw[←h2,h1]
 unfold IntKind.wrap
 simp[IntKind.bits,IntKind.signed]
 omega
abbrev spO (cap:Nat) (sp:List (Nat × Nat)) (j:List AV):HObj:=.var (.arr cap 271) (.agg (sps sp++j))
abbrev ziI:Cfg:=⟨fun _=>false,fun _=>false⟩
theorem XP (ws:List (List UInt8)) (x:Nat) (h:x<ws.length):(strs (ws.take x++List.replicate (ws.length-x) [])).set x (.s ws[x])=strs (ws.take (x+1)++List.replicate (ws.length-(x+1)) []):=by
 have e:ws.length-x=(ws.length-(x+1))+1:=by omega
 rw[e,List.replicate_succ,Z6,List.set_append_right _ _ (by simp[strs];omega)]
 have:x-(strs (ws.take x)).length=0:=by simp[strs];omega
 rw[this,List.take_succ_eq_append_getElem h,List.append_assoc,Z6]
 simp[strs]
set_option maxHeartbeats 16000000 in
theorem za2 (l:List UInt8) (hl:l.length≤1000000) :
  q7 Tryz.prog 171 [.av .str (.s l),.av .func (.fn 172 [])] [] fun r H'=>∃b cap,r=.av (.slice 9) (.msl b 9 0 (zR l).length cap)∧H'=[(b,.var (.arr cap 9) (.agg (strs (zR l))))]∧cap=(zR l).length:=by
 refine q7.sub (R:=fun r H'=>∃b cap H2,r=.av (.slice 9) (.msl b 9 0 (zR l).length cap)∧H2=[(b,.var (.arr cap 9) (.agg (strs (zR l))))]∧cap=(zR l).length∧Ab.HSub H2 H') ?_ fun r H' ⟨b,cap,H2,h1,h2,h3,h4⟩ _=>⟨H2,h4,b,cap,h1,h2,h3⟩
 refine zov Tryz.func171 ziI fun imm0 w0=>?_
 simp (disch:=omega) [zz]
 intro b0
 intro bi hbi
 have hbi':¬b0=bi:=fun e=>hbi e.symm
 refine AT.loopV (α:=Nat × Nat × Nat × List (Nat × Nat) × List AV × Int) (fun x ver=>St.of [(0,.av .str (.s l)),(1,.av .func (.fn 172 [])),(5,.av (.slice 271) (.msl x.2.1 271 0 x.2.2.2.1.length x.2.2.1)),(6,.av (.int .i64) (.i .i64 x.2.2.2.2.2)),(14,.av .ptr (.ptr bi .other []))] [] ver [(x.2.1,spO x.2.2.1 x.2.2.2.1 x.2.2.2.2.1),(bi,.siter l x.1)])
  (fun x=>XG l x.1 x.2.2.2.1 x.2.2.2.2.2∧JK x.2.2.2.2.1∧x.2.2.2.1.length+x.2.2.2.2.1.length=x.2.2.1∧x.2.1≠bi) (fun x=>l.length-x.1) (0,b0,32,[],List.replicate 32 (.agg [.i .i64 0,.i .i64 0]),-1) ?_ ?_ ?_
 ·refine Le.ofP ?_ ?_ ?_ ?_ (HSub.of_perm (List.Perm.swap _ _ _))<;>simp[qU,qG,sps]<;>try omega
 ·exact⟨XG.start l,JK.rep rfl 32,by simp,hbi'⟩
 rintro⟨k,b,cap,sp,j,st⟩ ver ⟨hinv,hj,hcap,hb⟩ KL hN hE
 simp only at hinv hj hcap hb hN
 have hb':¬bi=b:=fun e=>hb e.symm
 refine qM (cf:=ziI) laid mixed _ _ _ (by kernel_rfl) ?_
 by_cases hlt:k<l.length
 ·obtain⟨c,hc⟩:∃c,l[k]?=some c:=⟨_,List.getElem?_eq_getElem hlt⟩
  obtain⟨r,w,hr⟩:∃r w,QV l k=(r,w):=⟨_,_,rfl⟩
  have hrw:r≤1114111∧1≤w∧k+w≤l.length∧(cP r=true→w=1∧vV c=true)∧(cP r=false→∀y∈(l.drop k).take w,vV y=false):=by
   by_cases h8:c.toNat<128
   ·rw[vC hc h8]at hr
    cases hr
    rw[zi2]
    refine⟨by omega,by omega,by omega,fun h=>⟨rfl,h⟩,fun h y hy=>?_⟩
    rw[zjd hc]at hy
    simp at hy
    rw[hy];exact h
   ·have h1:=zdr hc h8
    have h2:=zh0 hc h8
    rw[hr]at h1 h2
    refine⟨h1.2,h2.1,h2.2.1,fun h=>?_,fun _ y hy=>?_⟩
    ·have:=h1.1
     unfold cP at h
     simp at h
     omega
    ·have:=h2.2.2 y hy
     rw[←zi2]
     unfold cP
     simp
     omega
  obtain⟨hr1,hw1,hkw,hsy,hsn⟩:=hrw
  simp (disch:=omega) [zz,hlt,hr,hb,hb']
  refine zcv (zl1 r hr1) ?_
  cases hs:cP r
  ·have hrun:=hinv.run hw1 hkw (hsn hs)
   by_cases h0:st<0
   ·rw[if_pos h0]at hrun
    simp (disch:=omega) [zz,hs,h0]
    refine hN _ (k+w,b,cap,sp,j,(k:Int)) ?_ ⟨hrun,hj,hcap,hb⟩ (by simp only;omega)
    apply Le.of<;>simp[qU,qG,qO,qH,qP,qK,qF,qI,qJ,qN,sps]<;>try omega
   ·rw[if_neg h0]at hrun
    simp (disch:=omega) [zz,hs,h0]
    refine hN _ (k+w,b,cap,sp,j,st) ?_ ⟨hrun,hj,hcap,hb⟩ (by simp only;omega)
    apply Le.of<;>simp[qU,qG,qO,qH,qP,qK,qF,qI,qJ,qN,sps]<;>try omega
  ·obtain⟨rfl,hsc⟩:=hsy hs
   by_cases h0:st<0
   ·have h0':¬0≤st:=by omega
    simp (disch:=omega) [zz,hs,h0,h0']
    refine hN _ (k+1,b,cap,sp,j,st) ?_ ⟨hinv.sepNo h0 hc hsc,hj,hcap,hb⟩ (by simp only;omega)
    apply Le.of<;>simp[qU,qG,qO,qH,qP,qK,qF,qI,qJ,qN,sps]<;>try omega
   ·obtain⟨i,rfl⟩:∃i:Nat,st=i:=⟨st.toNat,by omega⟩
    have h0':(0:Int)≤i:=by omega
    have hnx:=hinv.sepYes hc hsc
    have hf:=hinv.few
    have e1:(sps sp++j).take sp.length=sps sp:=by rw[List.take_append_of_le_length (by simp[yT])];exact List.take_of_length_le (by simp[yT])
    have e2:(sps sp++j).drop (sp.length+1)=j.drop 1:=by
     rw[List.drop_append,List.drop_of_length_le (by simp[yT])];simp[yT]
    have e3:sps (sp++[(i,k)])=sps sp++[.agg [.i .i64 i,.i .i64 k]]:=by rw[zge];rfl
    have hx:=zmX (i:=i) (by have:=(hinv.yes i rfl).1;omega)
    simp (disch:=omega) [zz,hs,h0',hb,hb',e1,e2,yT]
    refine⟨by omega,⟨by omega,by omega⟩,fun hcp=>?_,fun hcp b' cap' hb1 hb2 hcp'=>?_⟩
    ·refine hN _ (k+1,b,cap,sp++[(i,k)],j.drop 1,-(i:Int)-1) ?_ ⟨hnx,hj.drop 1,by simp;omega,hb⟩ (by simp only;omega)
     apply Le.of<;>simp[qU,qG,qO,qH,qP,qK,qF,qI,qJ,qN,e3,hx,yT,spO]<;>try omega
    ·have hb1':¬b=b':=fun e=>hb1 e.symm
     refine hN _ (k+1,b',cap',sp++[(i,k)],List.replicate (cap'-(sp.length+1)) (.agg [.i .i64 0,.i .i64 0]),-(i:Int)-1) ?_ ⟨hnx,JK.rep rfl _,by simp at hcp' ⊢;omega,hb2⟩ (by simp only;omega)
     apply Le.of<;>simp[qU,qG,qO,qH,qP,qK,qF,qI,qJ,qN,e3,hx,yT,spO]<;>try omega
 have hkl:k=l.length:=by have:=hinv.le;omega
 subst hkl
 simp (disch:=omega) [zz,hlt,hb,hb']
 refine hE _ _ (by simp) ?_
 clear hN hE
 by_cases h0:st<0
 ·have h0':¬0≤st:=by omega
  have hW:=hinv.endNo h0
  have hins:=hinv.ins
  have hf:=hinv.few
  simp (disch:=omega) [zz,h0',hb,hb']
  obtain⟨ws,hws⟩:∃ws,ws=zR l:=⟨_,rfl⟩
  rw[←hws]at hW ⊢
  have hwl:ws.length=(sp).length:=by rw[hW,List.length_map]
  refine⟨by omega,by omega,?_⟩
  intro b9 h91 h92
  have h91':¬b=b9:=fun e=>h91 e.symm
  have h92':¬bi=b9:=fun e=>h92 e.symm
  refine AT.loopV (α:=Nat) (fun x ver=>St.of [(0,.av .str (.s l)),(9,.av (.slice 9) (.msl b9 9 0 ws.length ws.length)),(47,.av (.slice 271) (.msl b 271 0 (sp).length cap)),(48,.av (.int .i64) (.i .i64 ws.length)),(49,.av (.int .i64) (.i .i64 x))] [] ver [(b9,.var (.arr ws.length 9) (.agg (strs (ws.take x++List.replicate (ws.length-x) [])))),(b,spO cap (sp) j),(bi,.siter l l.length)])
   (fun x=>x≤ws.length) (fun x=>ws.length-x) 0 ?_ ?_ ?_
  ·apply Le.of<;>simp[qU,qG,qO,qH,qP,qK,qF,qI,qJ,qN,YD,hwl,spO]<;>try omega
  ·simp
  rintro x ver2 hx KL2 hN2 hE2
  refine qM (cf:=ziI) laid mixed _ _ _ (by kernel_rfl) ?_
  by_cases hxl:x<ws.length
  ·have hxl':(x:Int)<ws.length:=by omega
   have hxs:x<(sp).length:=by omega
   have hxs':(x:Int)<(sp).length:=by omega
   obtain⟨pr,hpr⟩:∃pr,(sp)[x]=pr:=⟨_,rfl⟩
   obtain⟨pa,pb⟩:=pr
   have hgx:(sps (sp)++j)[x]?=some (.agg [.i .i64 pa,.i .i64 pb]):=by
    rw[List.getElem?_append_left (by simpa[yT]using hxs)]
    simp[sps,List.getElem?_eq_getElem hxs,hpr,zcx]
   have hin:=hins _ (hpr▸List.getElem_mem hxs)
   simp only at hin
   have hpa:(pa:Int)≤pb:=by omega
   have hpb:(pb:Int)≤l.length:=by omega
   have hwx:(l.take pb).drop pa=ws[x]:=by
    have:ws[x]=X0 l (sp)[x]:=by simp[hW]
    rw[this,hpr,X0,List.drop_take]
   have j1:=XP ws x hxl
   rw[←hwx]at j1
   simp (disch:=omega) [zz,hxs,hxs',hxl,hxl',hgx,hb,hb',h91,h92,h91',h92',hpa,hpb,j1]
   refine hN2 _ (x+1) ?_ (by omega) (by omega)
   apply Le.of<;>simp[qU,qG,qO,qH,qP,qK,qF,qI,qJ,qN,spO]<;>try omega
  ·have hxl':¬(x:Int)<ws.length:=by omega
   have hxw:x=ws.length:=by omega
   subst hxw
   simp (disch:=omega) [zz,hxl']
   refine hE2 _ _ (by simp) ?_
   simp (disch:=omega) [zz,Tryz.f171]
   exact⟨b9,_,⟨rfl,rfl⟩,rfl,HSub.of_sub (((List.nil_sublist _)).cons_cons _)⟩
 ·obtain⟨i,rfl⟩:∃i:Nat,st=i:=⟨st.toNat,by omega⟩
  have h0':(0:Int)≤i:=by omega
  obtain⟨hW,hil⟩:=hinv.endYes
  have hf:=hinv.few
  have hins:∀p∈sp++[(i,l.length)],p.1≤p.2∧p.2≤l.length:=fun p hp=>by
   rcases List.mem_append.1 hp with hp|hp
   ·exact hinv.ins p hp
   ·simp only[List.mem_singleton]at hp;subst hp;exact⟨by simp only;omega,by simp only;omega⟩
  obtain⟨spn,hspn⟩:∃spn,spn=sp++[(i,l.length)]:=⟨_,rfl⟩
  have hsl:sp.length+1=spn.length:=by rw[hspn];simp
  have e1:(sps sp++j).take sp.length=sps sp:=by rw[List.take_append_of_le_length (by simp[yT])];exact List.take_of_length_le (by simp[yT])
  have e2:(sps sp++j).drop (sp.length+1)=j.drop 1:=by
   rw[List.drop_append,List.drop_of_length_le (by simp[yT])];simp[yT]
  rw[hsl]at e2
  have e3:∀j',sps sp++.agg [.i .i64 i,.i .i64 l.length]::j'=sps spn++j':=fun j'=>by rw[hspn,zge];simp[sps,zcx]
  rw[←hspn]at hW hins
  simp (disch:=omega) [zz,h0',hb,hb',e1,e2,e3,yT,hsl]
  refine⟨by omega,⟨by omega,by omega⟩,fun hcp=>?_,fun hcp b' cap' hb1 hb2 hcp'=>?_⟩
  ·obtain⟨ws,hws⟩:∃ws,ws=zR l:=⟨_,rfl⟩
   rw[←hws]at hW ⊢
   have hwl:ws.length=(spn).length:=by rw[hW,List.length_map]
   refine⟨by omega,by omega,?_⟩
   intro b9 h91 h92
   have h91':¬b=b9:=fun e=>h91 e.symm
   have h92':¬bi=b9:=fun e=>h92 e.symm
   refine AT.loopV (α:=Nat) (fun x ver=>St.of [(0,.av .str (.s l)),(9,.av (.slice 9) (.msl b9 9 0 ws.length ws.length)),(47,.av (.slice 271) (.msl b 271 0 (spn).length cap)),(48,.av (.int .i64) (.i .i64 ws.length)),(49,.av (.int .i64) (.i .i64 x))] [] ver [(b9,.var (.arr ws.length 9) (.agg (strs (ws.take x++List.replicate (ws.length-x) [])))),(b,spO cap (spn) j.tail),(bi,.siter l l.length)])
    (fun x=>x≤ws.length) (fun x=>ws.length-x) 0 ?_ ?_ ?_
   ·apply Le.of<;>simp[qU,qG,qO,qH,qP,qK,qF,qI,qJ,qN,YD,hwl,spO]<;>try omega
   ·simp
   rintro x ver2 hx KL2 hN2 hE2
   refine qM (cf:=ziI) laid mixed _ _ _ (by kernel_rfl) ?_
   by_cases hxl:x<ws.length
   ·have hxl':(x:Int)<ws.length:=by omega
    have hxs:x<(spn).length:=by omega
    have hxs':(x:Int)<(spn).length:=by omega
    obtain⟨pr,hpr⟩:∃pr,(spn)[x]=pr:=⟨_,rfl⟩
    obtain⟨pa,pb⟩:=pr
    have hgx:(sps (spn)++j.tail)[x]?=some (.agg [.i .i64 pa,.i .i64 pb]):=by
     rw[List.getElem?_append_left (by simpa[yT]using hxs)]
     simp[sps,List.getElem?_eq_getElem hxs,hpr,zcx]
    have hin:=hins _ (hpr▸List.getElem_mem hxs)
    simp only at hin
    have hpa:(pa:Int)≤pb:=by omega
    have hpb:(pb:Int)≤l.length:=by omega
    have hwx:(l.take pb).drop pa=ws[x]:=by
     have:ws[x]=X0 l (spn)[x]:=by simp[hW]
     rw[this,hpr,X0,List.drop_take]
    have j1:=XP ws x hxl
    rw[←hwx]at j1
    simp (disch:=omega) [zz,hxs,hxs',hxl,hxl',hgx,hb,hb',h91,h92,h91',h92',hpa,hpb,j1]
    refine hN2 _ (x+1) ?_ (by omega) (by omega)
    apply Le.of<;>simp[qU,qG,qO,qH,qP,qK,qF,qI,qJ,qN,spO]<;>try omega
   ·have hxl':¬(x:Int)<ws.length:=by omega
    have hxw:x=ws.length:=by omega
    subst hxw
    simp (disch:=omega) [zz,hxl']
    refine hE2 _ _ (by simp) ?_
    simp (disch:=omega) [zz,Tryz.f171]
    exact⟨b9,_,⟨rfl,rfl⟩,rfl,HSub.of_sub (((List.nil_sublist _)).cons_cons _)⟩
  ·have hb2':¬bi=b':=fun e=>hb2 e.symm
   obtain⟨jz,hjz⟩:∃jz,jz=List.replicate (cap'-spn.length) (.agg [.i .i64 0,.i .i64 0]:AV):=⟨_,rfl⟩
   try rw[←hjz]
   obtain⟨ws,hws⟩:∃ws,ws=zR l:=⟨_,rfl⟩
   rw[←hws]at hW ⊢
   have hwl:ws.length=(spn).length:=by rw[hW,List.length_map]
   refine⟨by omega,by omega,?_⟩
   intro b9 h91 h93 h92
   have h91':¬b'=b9:=fun e=>h91 e.symm
   have h92':¬bi=b9:=fun e=>h92 e.symm
   refine AT.loopV (α:=Nat) (fun x ver=>St.of [(0,.av .str (.s l)),(9,.av (.slice 9) (.msl b9 9 0 ws.length ws.length)),(47,.av (.slice 271) (.msl b' 271 0 (spn).length cap')),(48,.av (.int .i64) (.i .i64 ws.length)),(49,.av (.int .i64) (.i .i64 x))] [] ver [(b9,.var (.arr ws.length 9) (.agg (strs (ws.take x++List.replicate (ws.length-x) [])))),(b',spO cap' (spn) jz),(bi,.siter l l.length)])
    (fun x=>x≤ws.length) (fun x=>ws.length-x) 0 ?_ ?_ ?_
   ·apply Le.of<;>simp[qU,qG,qO,qH,qP,qK,qF,qI,qJ,qN,YD,hwl,spO,hjz]<;>try omega
   ·simp
   rintro x ver2 hx KL2 hN2 hE2
   refine qM (cf:=ziI) laid mixed _ _ _ (by kernel_rfl) ?_
   by_cases hxl:x<ws.length
   ·have hxl':(x:Int)<ws.length:=by omega
    have hxs:x<(spn).length:=by omega
    have hxs':(x:Int)<(spn).length:=by omega
    obtain⟨pr,hpr⟩:∃pr,(spn)[x]=pr:=⟨_,rfl⟩
    obtain⟨pa,pb⟩:=pr
    have hgx:(sps (spn)++jz)[x]?=some (.agg [.i .i64 pa,.i .i64 pb]):=by
     rw[List.getElem?_append_left (by simpa[yT]using hxs)]
     simp[sps,List.getElem?_eq_getElem hxs,hpr,zcx]
    have hin:=hins _ (hpr▸List.getElem_mem hxs)
    simp only at hin
    have hpa:(pa:Int)≤pb:=by omega
    have hpb:(pb:Int)≤l.length:=by omega
    have hwx:(l.take pb).drop pa=ws[x]:=by
     have:ws[x]=X0 l (spn)[x]:=by simp[hW]
     rw[this,hpr,X0,List.drop_take]
    have j1:=XP ws x hxl
    rw[←hwx]at j1
    simp (disch:=omega) [zz,hxs,hxs',hxl,hxl',hgx,hb,hb',h91,h92,h91',h92',hpa,hpb,j1]
    refine hN2 _ (x+1) ?_ (by omega) (by omega)
    apply Le.of<;>simp[qU,qG,qO,qH,qP,qK,qF,qI,qJ,qN,spO]<;>try omega
   ·have hxl':¬(x:Int)<ws.length:=by omega
    have hxw:x=ws.length:=by omega
    subst hxw
    simp (disch:=omega) [zz,hxl']
    refine hE2 _ _ (by simp) ?_
    simp (disch:=omega) [zz,Tryz.f171]
    exact⟨b9,_,⟨rfl,rfl⟩,rfl,HSub.of_sub (((List.nil_sublist _)).cons_cons _)⟩
@[simp] theorem zkU:qZ Tryz.prog 178=true:=by kernel_rfl
@[simp] theorem zpQ:z8 Tryz.prog (.func 178)=false:=q9 zkU
set_option maxHeartbeats 1000000 in
theorem zcK (s:ByteArray) (c:UInt8) (w:World) :
  Calls Tryz.prog 178 #[.string s,.string ⟨#[c]⟩] w fun e w'=>e=.returned (.int .i64 (Lib.countByte s.data.toList c:Nat))∧w'=w:=by
 go_enter Tryz.func178,Tryz.ntmps178
 go_wp2
 rw[run_callFunc_extern Tryz.func209 (by kernel_rfl) (by kernel_rfl) (by kernel_rfl) (e:=Extern.BytealgCount.count) (by kernel_rfl),Lib.run_countString]
 simp only[Result.andThen]
 rw[Oper.upon_value]
 go_wp2
 go_ret
 exact⟨rfl,rfl⟩
theorem zk2 (l:List UInt8) (c:UInt8):PC Tryz.prog 178 [.av .str (.s l),.av .str (.s [c])] (.av (.int .i64) (.i .i64 (Lib.countByte l c:Nat))):=by
 refine PC.of_calls (vs0:=[.string ⟨l.toArray⟩,.string ⟨#[c]⟩]) (v:=.int .i64 (Lib.countByte l c:Nat)) ?_ (fun _ _=>⟨rfl,rfl,rfl⟩) ?_
 ·intro imm w vs h
  match vs,h with
  | [a,b],⟨⟨f1,_,h1⟩,⟨f2,_,h2⟩,_⟩ =>
   rw[qR rfl f1]at h1
   rw[qR rfl f2]at h2
   simp at h1 h2
   rw[h1,h2]
 ·intro w
  have:=zcK ⟨l.toArray⟩ c w
  simpa using this
theorem xB (c:UInt8):∀l,(qT c l).length=Lib.countByte l c+1
 | []=>rfl
 | b::l=>by
  have ih:=xB c l
  rw[qT]
  unfold Lib.countByte at ih ⊢
  by_cases h:b=c
  ·rw[if_pos h,List.length_cons,ih,h,List.count_cons_self]
  ·rw[if_neg h,List.count_cons_of_ne (by simpa using h)]
   cases hs:qT c l with
   | nil=>exact absurd hs (JJ c l)
   | cons x r=>rw[hs]at ih;simpa using ih
theorem zdS (c:UInt8) (l:List UInt8):Lib.countByte l c≤l.length:=List.count_le_length
@[simp] theorem zkr:qZ Tryz.prog 144=true:=by kernel_rfl
@[simp] theorem zqg:z8 Tryz.prog (.func 144)=false:=q9 zkr
@[simp] theorem zkj:qZ Tryz.prog 111=true:=by kernel_rfl
@[simp] theorem zq3:z8 Tryz.prog (.func 111)=false:=q9 zkj
set_option maxHeartbeats 16000000 in
theorem zd1 (l:List UInt8) (c:UInt8) (hl:l.length≤1000000) :
  q7 Tryz.prog 144 [.av .str (.s l),.av .str (.s [c]),.av (.int .i64) (.i .i64 0),.av (.int .i64) (.i .i64 (-1))] [] fun r H'=>∃b,r=.av (.slice 9) (.msl b 9 0 (qT c l).length (qT c l).length)∧H'=[(b,.var (.arr (qT c l).length 9) (.agg (strs (qT c l))))]:=by
 obtain⟨ws,hws⟩:∃ws,ws=qT c l:=⟨_,rfl⟩
 have hcn:=xB c l
 have hle:=zdS c l
 rw[←hws]at hcn ⊢
 refine zov Tryz.func144 cf0 fun imm0 w0=>?_
 simp (disch:=omega) [zz]
 refine zcv (zk2 l c) ?_
 have hmin:¬(l.length:Int)+1<(Lib.countByte l c:Int)+1:=by omega
 obtain⟨cnt,hcnt⟩:∃cnt,cnt=Lib.countByte l c:=⟨_,rfl⟩
 rw[←hcnt]at hcn hle hmin ⊢
 have hz0:List.replicate (cnt+1) (AV.s [])=strs (List.replicate (cnt+1) []):=YD _
 simp (disch:=omega) [zz,hmin]
 refine⟨by omega,by omega,by omega,?_⟩
 intro b
 refine AT.loopV (α:=Nat × List UInt8) (fun x ver=>St.of [(0,.av .str (.s x.2)),(1,.av .str (.s [c])),(2,.av (.int .i64) (.i .i64 0)),(3,.av (.int .i64) (.i .i64 cnt)),(9,.av (.slice 9) (.msl b 9 0 (cnt+1) (cnt+1))),(10,.av (.int .i64) (.i .i64 x.1))] [] ver [(b,.var (.arr (cnt+1) 9) (.agg (strs (ws.take x.1++List.replicate (ws.length-x.1) []))))])
  (fun x=>x.1≤cnt∧ws.drop x.1=qT c x.2∧x.2.length≤l.length) (fun x=>cnt-x.1) (0,l) ?_ ?_ ?_
 ·apply Le.of<;>simp[qU,qG,qO,qH,qP,qK,qF,qI,qJ,qN,YD,hcn]<;>try omega
 ·exact⟨by omega,by simp[hws],Nat.le_refl _⟩
 rintro⟨i,s⟩ ver ⟨hi,hdr,hsl⟩ KL hN hE
 simp only at hi hdr hsl hN
 have hlen:=congrArg List.length hdr
 rw[List.length_drop,hcn]at hlen
 refine qM (cf:=cf0) laid mixed _ _ _ (by kernel_rfl) ?_
 by_cases hlt:i<cnt
 ·have hlt':(i:Int)<cnt:=by omega
  have hge:=Lib.indexByte_ge s c
  have hne:Lib.indexByte s c≠-1:=fun e=>by
   rw[uO e]at hlen
   simp at hlen;omega
  obtain⟨m,hm⟩:∃m:Nat,Lib.indexByte s c=m:=⟨(Lib.indexByte s c).toNat,by omega⟩
  obtain⟨hsp,hml⟩:=uG hm
  have hm0:¬(m:Int)<0:=by omega
  have hil:i<ws.length:=by omega
  have hwi:s.take m=ws[i]:=by
   have:=congrArg (·[0]?) hdr
   rw[hsp]at this
   simp only[List.getElem?_drop,Nat.add_zero,List.getElem?_cons_zero]at this
   rw[List.getElem?_eq_getElem hil]at this
   exact(Option.some.inj this).symm
  have j1:=XP ws i hil
  rw[←hwi]at j1
  simp (disch:=omega) [zz,hlt']
  refine zcv (zab s c (by omega)) ?_
  simp (disch:=omega) [zz,hm,hm0,hml,j1]
  refine⟨by omega,by omega,by omega,by omega,by omega,?_⟩
  refine hN _ (i+1,s.drop (m+1)) ?_ ⟨by simp only;omega,?_,by simp;omega⟩ (by simp only;omega)
  ·apply Le.of<;>simp[qU,qG,qO,qH,qP,qK,qF,qI,qJ,qN,zX]<;>try omega
  ·have:=congrArg (List.drop 1) hdr
   rw[List.drop_drop,hsp]at this
   simpa using this
 ·have hlt':¬(i:Int)<cnt:=by omega
  have hic:i=cnt:=by omega
  subst hic
  have hge:=Lib.indexByte_ge s c
  have hno:Lib.indexByte s c=-1:=by
   refine Classical.byContradiction fun hne=>?_
   obtain⟨m,hm⟩:∃m:Nat,Lib.indexByte s c=m:=⟨(Lib.indexByte s c).toNat,by omega⟩
   obtain⟨hsp,hml⟩:=uG hm
   rw[hsp]at hlen
   have:=List.length_pos_iff.2 (JJ c (s.drop (m+1)))
   rw[List.length_cons]at hlen
   omega
  have hil:i<ws.length:=by omega
  have hwi:s=ws[i]:=by
   have:=congrArg (·[0]?) hdr
   rw[uO hno]at this
   simp only[List.getElem?_drop,Nat.add_zero,List.getElem?_cons_zero]at this
   rw[List.getElem?_eq_getElem hil]at this
   exact(Option.some.inj this).symm
  have j1:=XP ws i hil
  rw[←hwi]at j1
  have htk:strs (ws.take (i+1)++List.replicate (ws.length-(i+1)) [])=strs ws:=by
   rw[hcn];simp[List.take_of_length_le (by omega:ws.length≤i+1)]
  rw[htk]at j1
  have hone:List.replicate (ws.length-i) ([]:List UInt8)=[[]]:=by rw[hcn];simp
  rw[hone]at j1
  have hek:AV.erks (strs ws)=strs ws:=by simp[strs,AV.erks_eq,Function.comp_def]
  simp (disch:=omega) [zz,hlt']
  refine hE _ _ (by simp) ?_
  simp (disch:=omega) [zz,j1,hil,hcn,hone]
  simp (disch:=omega) [zz,Tryz.f144,j1,hil,hcn,hone,hek]
  try omega
theorem zcL (l:List UInt8) (c:UInt8) (hl:l.length≤1000000) :
  q7 Tryz.prog 111 [.av .str (.s l),.av .str (.s [c])] [] fun r H'=>∃b,r=.av (.slice 9) (.msl b 9 0 (qT c l).length (qT c l).length)∧H'=[(b,.var (.arr (qT c l).length 9) (.agg (strs (qT c l))))]:=by
 refine zov Tryz.func111 cf0 fun imm0 w0=>?_
 simp (disch:=omega) [zz]
 refine qE (R:=fun r H'=>∃b,r=.av (.slice 9) (.msl b 9 0 (qT c l).length (qT c l).length)∧H'=[(b,.var (.arr (qT c l).length 9) (.agg (strs (qT c l))))]) [] [] (by simp) rfl (by simp[qQ]) (by simp) ?_ ?_
 ·exact q7.args (zd1 l c hl) (by simp[qS,coC,TV.er,AV.er])
 rintro r H' ⟨b,rfl,rfl⟩ _
 refine⟨_,by simpa using HSub.refl _,?_⟩
 simp (disch:=omega) [zz,Tryz.f111]
def VY (l p:List UInt8):Bool:=decide (p.length≤l.length∧l.drop (l.length-p.length)=p)
def K8 (l p:List UInt8):List UInt8:=if VY l p=true then l.take (l.length-p.length) else l
@[simp] theorem zlB:qZ Tryz.prog 204=true:=by kernel_rfl
@[simp] theorem zqG:z8 Tryz.prog (.func 204)=false:=q9 zlB
@[simp] theorem zlf:qZ Tryz.prog 170=true:=by kernel_rfl
@[simp] theorem zqe:z8 Tryz.prog (.func 170)=false:=q9 zlf
@[simp] theorem zmo:qZ Tryz.prog 129=true:=by kernel_rfl
@[simp] theorem zq0:z8 Tryz.prog (.func 129)=false:=q9 zmo
@[simp] theorem zoC:qZ Tryz.prog 94=true:=by kernel_rfl
@[simp] theorem zsj:z8 Tryz.prog (.func 94)=false:=q9 zoC
theorem dP (l p:List UInt8) (hl:l.length≤1000000000) (hp:p.length≤1000000000):PC Tryz.prog 204 [.av .str (.s l),.av .str (.s p)] (.av .bool (.b (VY l p))):=by
 refine zow Tryz.func204 cf0 fun imm0 w0=>?_
 by_cases h:p.length≤l.length
 ·have h':(p.length:Int)≤l.length:=by omega
  have h2:(0:Int)≤(l.length:Int)-p.length:=by omega
  have h3:((l.length:Int)-p.length).toNat=l.length-p.length:=by omega
  simp (disch:=omega) [zz,h,h',h2,h3,Tryz.f204,VY]
  try omega
 ·have h':¬(p.length:Int)≤l.length:=by omega
  simp (disch:=omega) [zz,h,h',Tryz.f204,VY]
theorem zcg (l p:List UInt8) (hl:l.length≤1000000000) (hp:p.length≤1000000000):PC Tryz.prog 170 [.av .str (.s l),.av .str (.s p)] (.av .str (.s (K8 l p))):=by
 refine zow Tryz.func170 cf0 fun imm0 w0=>?_
 simp (disch:=omega) [zz]
 refine zcv (dP l p hl hp) ?_
 by_cases h:VY l p=true
 ·have hle:p.length≤l.length:=by simp[VY]at h;exact h.1
  have h3:((l.length:Int)-p.length).toNat=l.length-p.length:=by omega
  have h2:(0:Int)≤(l.length:Int)-p.length:=by omega
  simp (disch:=omega) [zz,h,h2,h3,Tryz.f170,K8]
  try omega
 ·simp (disch:=omega) [zz,h,Tryz.f170,K8]
theorem CJ (l p:List UInt8) (hl:l.length≤1000000000) (hp:p.length≤1000000000):PC Tryz.prog 129 [.av .str (.s l),.av .str (.s p)] (.av .str (.s (K8 l p))):=by
 refine zow Tryz.func129 cf0 fun imm0 w0=>?_
 simp (disch:=omega) [zz]
 refine zcv (zcg l p hl hp) ?_
 simp (disch:=omega) [zz,Tryz.f129]
theorem XY (l p:List UInt8):(K8 l p).length≤l.length:=by unfold K8;split<;>simp
def z7 (l:List UInt8):List (List UInt8):=if l=[] then [] else qT 10 (K8 l [10])
theorem ZE (l:List UInt8):(z7 l).length≤l.length+1:=by
 unfold z7
 split
 ·simp
 ·have:=xB 10 (K8 l [10])
  have:=zdS 10 (K8 l [10])
  have:=XY l [10]
  omega
def D9 (ws:List (List UInt8)) (r:TV) (H':q8):Prop:=(ws=[]∧r=.av (.slice 9) (.sl .no [])∧H'=[])∨∃b,r=.av (.slice 9) (.msl b 9 0 ws.length ws.length)∧H'=[(b,.var (.arr ws.length 9) (.agg (strs ws)))]
theorem VP (l:List UInt8) (hl:l.length≤1000000):q7 Tryz.prog 94 [.av .str (.s l)] [] (D9 (z7 l)):=by
 refine zov Tryz.func94 cf0 fun imm0 w0=>?_
 by_cases h0:l=[]
 ·subst h0
  simp (disch:=omega) [zz,Tryz.f94,z7,D9]
 ·simp (disch:=omega) [zz,h0]
  refine zcv (CJ l [10] (by omega) (by simp)) ?_
  simp (disch:=omega) [zz]
  have hle:=XY l [10]
  refine qE (R:=fun r H'=>∃b,r=.av (.slice 9) (.msl b 9 0 (qT 10 (K8 l [10])).length (qT 10 (K8 l [10])).length)∧H'=[(b,.var (.arr (qT 10 (K8 l [10])).length 9) (.agg (strs (qT 10 (K8 l [10])))))]) [] [] (by simp) rfl (by simp[qQ]) (by simp) ?_ ?_
  ·exact q7.args (zcL (K8 l [10]) 10 (by omega)) (by simp[qS,coC,TV.er,AV.er])
  rintro r H' ⟨b,rfl,rfl⟩ _
  refine⟨_,by simpa using HSub.refl _,?_⟩
  have hek:∀ws,AV.erks (strs ws)=strs ws:=fun ws=>by simp[strs,AV.erks_eq,Function.comp_def]
  have hlv:z7 l=qT 10 (K8 l [10]):=by unfold z7;rw[if_neg h0]
  simp (disch:=omega) [zz,Tryz.f94,D9,hlv,hek]
theorem D9.freeze {P:Program} {f:FuncId} {args:List TV} {ws:List (List UInt8)} (hl:laidOutB P=true) (hp:jX P 9=true) (h:q7 P f args [] (D9 ws)):PC P f args (.av (.slice 9) (.sl .no (strs ws))):=by
 refine h.freeze hl ?_
 rintro r H' hR _
 rcases hR with⟨rfl,rfl,rfl⟩|⟨b,rfl,rfl⟩
 ·right
  exact⟨rfl,rfl⟩
 ·left
  refine⟨b,ws.length,9,_,[],List.Perm.refl _,?_,rfl⟩
  simp only[zho,fzA]
  rw[if_pos ⟨trivial,trivial,by omega,by omega⟩]
  simp only[List.drop_zero]
  rw[List.take_of_length_le (by simp[strs])]
end Go.Proofs.YtcgpcfcbienapaaGreatDoor
end
