/- Digests in order. No condition. -/
import Derived.Test.YtognnffjdckalaaGreatDoorD1To
set_option linter.unusedSimpArgs false
set_option linter.unusedVariables false
set_option linter.unusedSectionVars false
set_option maxRecDepth 100000
namespace Go.Proofs.YtognnffjdckalaaGreatDoor
open Go Go.Ab
open Classical
variable [Sel]
@[simp] theorem zsC:qN Tryz.prog (.func 168)=true:=by kernel_rfl
@[simp] theorem zsq:zm8 Tryz.prog (.func 168)=true:=by kernel_rfl
theorem zqI:zqi Tryz.prog (.func 168):=⟨_,Tryz.func168,by kernel_rfl,by kernel_rfl,by kernel_rfl,by kernel_rfl⟩
theorem P1 (a b:UInt8):a<b\/a=b\/b<a:=by
 rcases Nat.lt_trichotomy a.toNat b.toNat with h|h|h
 ·exact .inl (UInt8.lt_iff_toNat_lt.2 h)
 ·exact .inr (.inl (UInt8.toNat_inj.1 h))
 ·exact .inr (.inr (UInt8.lt_iff_toNat_lt.2 h))
theorem xY {a b:UInt8} (h:a<b):¬b<a:=by
 rw[UInt8.lt_iff_toNat_lt]at h |-;omega
theorem zmL {a b c:UInt8} (h:a<b) (h':b<c):a<c:=by
 rw[UInt8.lt_iff_toNat_lt]at h h' |-;omega
theorem u7:∀a b:List UInt8,Lib.compareBytes b a=- Lib.compareBytes a b
 | [],[]=>rfl
 | [],_::_=>rfl
 | _::_,[]=>rfl
 | a::ar,b::br=>by
  have ih:=u7 ar br
  unfold Lib.compareBytes
  rcases P1 a b with h|h|h
  ·simp[h,xY h]
  ·subst h;simp[UInt8.lt_irrefl,ih]
  ·simp[h,xY h]
theorem cK:∀ {a b:List UInt8},Lib.compareBytes a b=0<->a=b
 | [],[]=>by simp[Lib.compareBytes]
 | [],_::_=>by simp[Lib.compareBytes]
 | _::_,[]=>by simp[Lib.compareBytes]
 | a::ar,b::br=>by
  have ih:=cK (a:=ar) (b:=br)
  unfold Lib.compareBytes
  rcases P1 a b with h|h|h
  ·have:¬a=b:=fun e=>by subst e;exact UInt8.lt_irrefl a h
   simp[h,this]
  ·subst h;simp[UInt8.lt_irrefl,ih]
  ·have:¬a=b:=fun e=>by subst e;exact UInt8.lt_irrefl a h
   simp[h,xY h,this]
def ltL (a b:List UInt8):Bool:=decide (Lib.compareBytes a b<0)
theorem CF (a:List UInt8):ltL a a=false:=by
 have:=cK.2 (rfl:a=a);simp[ltL,this]
theorem xW:∀ {a b c:List UInt8},ltL a b=true->ltL b c=true->ltL a c=true
 | [],_,[],h1,h2=>by
  rename_i b
  cases b with
  | nil=>exact h1
  | cons x r=>simp[ltL,Lib.compareBytes]at h2
 | [],_,_::_,_,_=>by simp[ltL,Lib.compareBytes]
 | _::_,[],_,h1,_=>by simp[ltL,Lib.compareBytes]at h1
 | _::_,_::_,[],_,h2=>by simp[ltL,Lib.compareBytes]at h2
 | a::ar,b::br,c::cr,h1,h2=>by
  have ih:=fun h h'=>xW (a:=ar) (b:=br) (c:=cr) h h'
  simp only[ltL,decide_eq_true_eq]at h1 h2 ih |-
  unfold Lib.compareBytes at h1 h2 |-
  rcases P1 a b with h|h|h
  ·rcases P1 b c with k|k|k
   ·simp[zmL h k]
   ·subst k;simp[h]
   ·rw[if_neg (xY k),if_pos k]at h2;omega
  ·subst h
   rw[if_neg (UInt8.lt_irrefl a),if_neg (UInt8.lt_irrefl a)]at h1
   rcases P1 a c with k|k|k
   ·simp[k]
   ·subst k
    rw[if_neg (UInt8.lt_irrefl a),if_neg (UInt8.lt_irrefl a)]at h2 |-
    exact ih h1 h2
   ·rw[if_neg (xY k),if_pos k]at h2;omega
  ·rw[if_neg (xY h),if_pos h]at h1;omega
theorem zcL {a b:List UInt8} (h:ltL a b=true):ltL b a=false:=by
 have:=u7 a b
 simp only[ltL,decide_eq_true_eq,decide_eq_false_iff_not]at h |-;omega
theorem ziS (a b:List UInt8):ltL a b=true\/a=b\/ltL b a=true:=by
 have h1:=u7 a b
 have h2:=cK (a:=a) (b:=b)
 simp only[ltL,decide_eq_true_eq]
 rcases Int.lt_trichotomy (Lib.compareBytes a b) 0 with h|h|h
 ·exact .inl h
 ·exact .inr (.inl (h2.1 h))
 ·exact .inr (.inr (by omega))
theorem zho {a b c:List UInt8} (h1:ltL a b=false) (h2:ltL b c=false):ltL a c=false:=by
 rcases ziS b a with h|h|h
 ·rcases ziS c b with k|k|k
  ·exact zcL (xW k h)
  ·subst k;exact zcL h
  ·rw[k]at h2;cases h2
 ·subst h;exact h2
 ·rw[h]at h1;cases h1
def byB (a:List UInt8):List AV:=a.map fun b=>.i .u8 b.toNat
theorem dS:∀a,bytesOf (byB a)=some a
 | []=>rfl
 | b::r=>by
  have ih:=dS r
  simp only[byB,List.map_cons,bytesOf]at ih |-
  rw[ih];simp
@[simp] theorem zgU (a:List UInt8):(byB a).length=a.length:=by simp[byB]
@[simp] theorem zrF (a:List UInt8):AV.erks (byB a)=byB a:=by simp[byB,AV.erks_eq,AV.erk,Function.comp_def]
theorem znS (a:Dig):qK a=.agg (byB a):=rfl
noncomputable def dgO (a:Dig):HObj:=.var (.arr 32 5) (.agg (byB a))
theorem ziF (a b:Dig) (ha:a.length=32) (hb:b.length=32) (b1 b2:Nat) (hne:b1≠b2) :
  q6 Tryz.prog 118 [.av (.slice 5) (.msl b1 5 0 32 32),.av (.slice 5) (.msl b2 5 0 32 32)] [(b1,dgO a),(b2,dgO b)]
   fun r H'=>r=.av (.int .i64) (.i .i64 (Lib.compareBytes a b))/\H'=[(b1,dgO a),(b2,dgO b)]:=by
 have hne':¬b2=b1:=fun e=>hne e.symm
 have ta:(byB a).take 32=byB a:=List.take_of_length_le (by simp[ha])
 have tb:(byB b).take 32=byB b:=List.take_of_length_le (by simp[hb])
 have hc:Extern.BytealgCompare.cmp ⟨a.toArray⟩ ⟨b.toArray⟩=Lib.compareBytes a b:=by rw[Lib.cmp_eq]
 refine zov Tryz.func118 cf0 fun imm0 w0=>?_
 simp (disch:=omega) [zz,dgO,zpf,zqI,hne,hne',ta,tb,dS,hc,Tryz.f118]
abbrev ztq:Cfg:=⟨fun n=>n==2||n==3,fun n=>n==1000001||n==2000007⟩
theorem zkf (a b:Dig) (ha:a.length=32) (hb:b.length=32) :
  PC Tryz.prog 122 [.av (.arr 32 5) (qK a),.av (.arr 32 5) (qK b)] (.av (.int .i64) (.i .i64 (Lib.compareBytes a b))):=by
 refine zow Tryz.func122 ztq fun imm0 w0=>?_
 simp (disch:=omega) [zz]
 intro b2 b3 h23
 have h23':¬b2=b3:=fun e=>h23 e.symm
 refine j6.of [0,1,2,3] [] (by kernel_rfl) ?_
 simp (disch:=omega) [zz,h23,h23']
 (repeat with_reducible refine om ?_)
 refine qM (R:=fun r H'=>r=.av (.int .i64) (.i .i64 (Lib.compareBytes a b))/\H'=[(b2,dgO a),(b3,dgO b)]) [(b2,dgO a),(b3,dgO b)] [] (List.Perm.swap _ _ _) rfl (by simp[qH]) (by simp) ?_ ?_
 ·have:=ziF a b ha hb b2 b3 h23'
  simpa[TV.er,AV.er,dgO,HObj.er_var,q7.er_cons,q7.er_nil,AV.erk]using this
 rintro r' H' ⟨rfl,rfl⟩ _
 refine⟨_,HSub.refl _,?_⟩
 simp (disch:=omega) [zz,Tryz.f122]
end Go.Proofs.YtognnffjdckalaaGreatDoor
