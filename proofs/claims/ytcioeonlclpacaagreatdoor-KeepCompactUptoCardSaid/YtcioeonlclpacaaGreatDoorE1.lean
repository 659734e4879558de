/- Digests in order. No condition beyond each theorem's own. -/
import Derived.Test.YtcioeonlclpacaaGreatDoorD1To
import Derived.Lib.Bytealg
set_option linter.unusedSimpArgs false
set_option linter.unusedVariables false
set_option linter.unusedSectionVars false
set_option maxRecDepth 100000
/-! Digests in order. -/
namespace Go.Proofs.YtcioeonlclpacaaGreatDoor
open Go Go.Ab
open Classical
variable [Sel]

@[simp] theorem zx3:qZ Tryz.prog 67=true:=by kernel_rfl
@[simp] theorem zxn:z8 Tryz.prog (.func 67)=false:=q9 zx3
@[simp] theorem zwY:qZ Tryz.prog 68=true:=by kernel_rfl
@[simp] theorem zxk:z8 Tryz.prog (.func 68)=false:=q9 zwY
@[simp] theorem zSY:z8 Tryz.prog (.func 132)=true:=by kernel_rfl
@[simp] theorem zST:zpb Tryz.prog (.func 132)=true:=by kernel_rfl
theorem zSk:zpz Tryz.prog (.func 132):=⟨_,Tryz.func132,by kernel_rfl,by kernel_rfl,by kernel_rfl,by kernel_rfl⟩
theorem zMq (a b:UInt8):a<b∨a=b∨b<a:=by
 rcases Nat.lt_trichotomy a.toNat b.toNat with h|h|h
 ·exact .inl (UInt8.lt_iff_toNat_lt.2 h)
 ·exact .inr (.inl (UInt8.toNat_inj.1 h))
 ·exact .inr (.inr (UInt8.lt_iff_toNat_lt.2 h))
theorem zKe {a b:UInt8} (h:a<b):¬b<a:=by
 rw[UInt8.lt_iff_toNat_lt]at h ⊢;omega
theorem zQ2 {a b c:UInt8} (h:a<b) (h':b<c):a<c:=by
 rw[UInt8.lt_iff_toNat_lt]at h h' ⊢;omega
theorem zKo:∀a b:List UInt8,Lib.compareBytes b a=- Lib.compareBytes a b
 | [],[]=>rfl
 | [],_::_=>rfl
 | _::_,[]=>rfl
 | a::ar,b::br=>by
  have ih:=zKo ar br
  unfold Lib.compareBytes
  rcases zMq a b with h|h|h
  ·simp[h,zKe h]
  ·subst h;simp[UInt8.lt_irrefl,ih]
  ·simp[h,zKe h]
theorem zLP:∀ {a b:List UInt8},Lib.compareBytes a b=0↔a=b
 | [],[]=>by simp[Lib.compareBytes]
 | [],_::_=>by simp[Lib.compareBytes]
 | _::_,[]=>by simp[Lib.compareBytes]
 | a::ar,b::br=>by
  have ih:=zLP (a:=ar) (b:=br)
  unfold Lib.compareBytes
  rcases zMq a b with h|h|h
  ·have:¬a=b:=fun e=>by subst e;exact UInt8.lt_irrefl a h
   simp[h,this]
  ·subst h;simp[UInt8.lt_irrefl,ih]
  ·have:¬a=b:=fun e=>by subst e;exact UInt8.lt_irrefl a h
   simp[h,zKe h,this]
def ltL (a b:List UInt8):Bool:=decide (Lib.compareBytes a b<0)
theorem zOH (a:List UInt8):ltL a a=false:=by
 have:=zLP.2 (rfl:a=a);simp[ltL,this]
theorem zKQ:∀ {a b c:List UInt8},ltL a b=true→ltL b c=true→ltL a c=true
 | [],_,[],h1,h2=>by
  rename_i b
  cases b with
  | nil=>exact h1
  | cons x r=>simp[ltL,Lib.compareBytes]at h2
 | [],_,_::_,_,_=>by simp[ltL,Lib.compareBytes]
 | _::_,[],_,h1,_=>by simp[ltL,Lib.compareBytes]at h1
 | _::_,_::_,[],_,h2=>by simp[ltL,Lib.compareBytes]at h2
 | a::ar,b::br,c::cr,h1,h2=>by
  have ih:=fun h h'=>zKQ (a:=ar) (b:=br) (c:=cr) h h'
  simp only[ltL,decide_eq_true_eq]at h1 h2 ih ⊢
  unfold Lib.compareBytes at h1 h2 ⊢
  rcases zMq a b with h|h|h
  ·rcases zMq b c with k|k|k
   ·simp[zQ2 h k]
   ·subst k;simp[h]
   ·rw[if_neg (zKe k),if_pos k]at h2;omega
  ·subst h
   rw[if_neg (UInt8.lt_irrefl a),if_neg (UInt8.lt_irrefl a)]at h1
   rcases zMq a c with k|k|k
   ·simp[k]
   ·subst k
    rw[if_neg (UInt8.lt_irrefl a),if_neg (UInt8.lt_irrefl a)]at h2 ⊢
    exact ih h1 h2
   ·rw[if_neg (zKe k),if_pos k]at h2;omega
  ·rw[if_neg (zKe h),if_pos h]at h1;omega
theorem zMR {a b:List UInt8} (h:ltL a b=true):ltL b a=false:=by
 have:=zKo a b
 simp only[ltL,decide_eq_true_eq,decide_eq_false_iff_not]at h ⊢;omega
theorem zOO (a b:List UInt8):ltL a b=true∨a=b∨ltL b a=true:=by
 have h1:=zKo a b
 have h2:=zLP (a:=a) (b:=b)
 simp only[ltL,decide_eq_true_eq]
 rcases Int.lt_trichotomy (Lib.compareBytes a b) 0 with h|h|h
 ·exact .inl h
 ·exact .inr (.inl (h2.1 h))
 ·exact .inr (.inr (by omega))
theorem zOi {a b c:List UInt8} (h1:ltL a b=false) (h2:ltL b c=false):ltL a c=false:=by
 rcases zOO b a with h|h|h
 ·rcases zOO c b with k|k|k
  ·exact zMR (zKQ k h)
  ·subst k;exact zMR h
  ·rw[k]at h2;cases h2
 ·subst h;exact h2
 ·rw[h]at h1;cases h1
def byB (a:List UInt8):List AV:=a.map fun b=>.i .u8 b.toNat
theorem zLy:∀a,bytesOf (byB a)=some a
 | []=>rfl
 | b::r=>by
  have ih:=zLy r
  simp only[byB,List.map_cons,bytesOf]at ih ⊢
  rw[ih];simp
@[simp] theorem zOj (a:List UInt8):(byB a).length=a.length:=by simp[byB]
@[simp] theorem zSJ (a:List UInt8):AV.erks (byB a)=byB a:=by simp[byB,AV.erks_eq,AV.erk,Function.comp_def]
theorem zQh (a:Dig):KW a=.agg (byB a):=rfl
noncomputable def dgO (a:Dig):HObj:=.var (.arr 32 5) (.agg (byB a))
theorem zRh (a b:Dig) (ha:a.length=32) (hb:b.length=32) (b1 b2:Nat) (hne:b1≠b2) :
  q7 Tryz.prog 68 [.av (.slice 5) (.msl b1 5 0 32 32),.av (.slice 5) (.msl b2 5 0 32 32)] [(b1,dgO a),(b2,dgO b)]
   fun r H'=>r=.av (.int .i64) (.i .i64 (Lib.compareBytes a b))∧H'=[(b1,dgO a),(b2,dgO b)]:=by
 have hne':¬b2=b1:=fun e=>hne e.symm
 have ta:(byB a).take 32=byB a:=List.take_of_length_le (by simp[ha])
 have tb:(byB b).take 32=byB b:=List.take_of_length_le (by simp[hb])
 have hc:Extern.BytealgCompare.cmp ⟨a.toArray⟩ ⟨b.toArray⟩=Lib.compareBytes a b:=by rw[Lib.cmp_eq]
 refine zov Tryz.func68 cf0 fun imm0 w0=>?_
 (simp (maxSteps:=2000000) (disch:=first|omega|assumption) [zz,-List.reduceReplicate,dgO,zou,zSk,hne,hne',ta,tb,zLy,hc,Tryz.f68])
abbrev zTn:Cfg:=⟨fun n=>n==2||n==3,fun n=>n==1000001||n==2000007⟩
theorem zPn (a b:Dig) (ha:a.length=32) (hb:b.length=32) :
  PC Tryz.prog 67 [.av (.arr 32 5) (KW a),.av (.arr 32 5) (KW b)] (.av (.int .i64) (.i .i64 (Lib.compareBytes a b))):=by
 refine zow Tryz.func67 zTn fun imm0 w0=>?_
 (simp (maxSteps:=2000000) (disch:=first|omega|assumption) [zz,-List.reduceReplicate])
 intro b2 b3 h23
 have h23':¬b2=b3:=fun e=>h23 e.symm
 refine jW.of [0,1,2,3] [] (by kernel_rfl) ?_
 (simp (maxSteps:=2000000) (disch:=first|omega|assumption) [zz,-List.reduceReplicate,h23,h23'])
 (repeat with_reducible refine om ?_)
 refine qE (R:=fun r H'=>r=.av (.int .i64) (.i .i64 (Lib.compareBytes a b))∧H'=[(b2,dgO a),(b3,dgO b)]) [(b2,dgO a),(b3,dgO b)] [] (List.Perm.swap _ _ _) rfl (by simp[qQ]) (by simp) ?_ ?_
 ·have:=zRh a b ha hb b2 b3 h23'
  simpa[TV.er,AV.er,dgO,HObj.er_var,q8.er_cons,q8.er_nil,AV.erk]using this
 rintro r' H' ⟨rfl,rfl⟩ _
 refine⟨_,HSub.refl _,?_⟩
 (simp (maxSteps:=2000000) (disch:=first|omega|assumption) [zz,-List.reduceReplicate,Tryz.f67])
end Go.Proofs.YtcioeonlclpacaaGreatDoor
