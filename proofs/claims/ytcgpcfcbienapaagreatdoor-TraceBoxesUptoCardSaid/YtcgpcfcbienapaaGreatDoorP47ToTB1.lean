/- A row's texts, taken one by one: the program. No condition beyond each theorem's own. -/
import Derived.Test.YtcgpcfcbienapaaGreatDoorP46
import Derived.Test.YtcgpcfcbienapaaGreatDoorP27aToP25
import Derived.Test.YtcgpcfcbienapaaGreatDoorPD
import Derived.Test.YtcgpcfcbienapaaGreatDoorKO0ToP21a
import Derived.Test.YtcgpcfcbienapaaGreatDoorP40To3
import Derived.Test.YtcgpcfcbienapaaGreatDoorBE1aToAN0
set_option linter.unusedSimpArgs false
set_option linter.unusedVariables false
set_option linter.unusedSectionVars false
section
set_option maxRecDepth 100000
namespace Go.Proofs.YtcgpcfcbienapaaGreatDoor
open Go Go.Ab
open Classical
variable [Sel] [SelPow] [SelErr]
@[simp] theorem zos:qZ Tryz.prog 55=true:=by kernel_rfl
@[simp] theorem zrK:z8 Tryz.prog (.func 55)=false:=q9 zos
@[simp] theorem zGe:qZ Tryz.prog 52=true:=by kernel_rfl
@[simp] theorem zGy:z8 Tryz.prog (.func 52)=false:=q9 zGe
@[simp] theorem zG8:qZ Tryz.prog 53=true:=by kernel_rfl
@[simp] theorem zGC:z8 Tryz.prog (.func 53)=false:=q9 zG8
@[simp] theorem zo3:qZ Tryz.prog 54=true:=by kernel_rfl
@[simp] theorem zrg:z8 Tryz.prog (.func 54)=false:=q9 zo3
@[simp] theorem znY:qZ Tryz.prog 25=true:=by kernel_rfl
@[simp] theorem zsp:z8 Tryz.prog (.func 25)=false:=q9 znY
abbrev zEt:TyD:=.struct [25,4]
def zCV (B:Nat) (l:List (List UInt8)) (bad:Bool):q8:=[(B,.var zEt (.agg [.sl .no (zz6 l),.b bad]))]
@[simp] theorem zGt (B:Nat) (l:List (List UInt8)) (bad:Bool):(zCV B l bad).er=zCV B l bad:=by
 simp[zCV,q8.er_cons,q8.er_nil,HObj.er_var,AV.erk,AV.erks,Tok.k]
def cT (l:List (List UInt8)) (bad:Bool):List UInt8 × List (List UInt8) × Bool:=match l with
 | []=>([],[],true)
 | s::r=>(s,r,bad)
def zDH (s:List UInt8):Dig:=(s++zero32).take 32
theorem zDU {s:List UInt8} (h:s.length=32):zDH s=s:=by unfold zDH;rw[←h,List.take_left]
theorem zE5 (s:List UInt8):(zDH s).length=32:=by simp[zDH,zero32]
def cD (l:List (List UInt8)) (bad:Bool):Dig × List (List UInt8) × Bool:=(zDH (cT l bad).1,(cT l bad).2.1,(cT l bad).2.2||decide ((cT l bad).1.length≠32))
noncomputable def cN (l:List (List UInt8)) (bad:Bool):Int × List (List UInt8) × Bool:=match zDD (cT l bad).1 with
 | some n=>if 0≤n∧n≤(((cT l bad).2.1.length / 2:Nat):Int) then(n,(cT l bad).2.1,(cT l bad).2.2) else(0,(cT l bad).2.1,true)
 | none=>(0,(cT l bad).2.1,true)
def cR (l:List (List UInt8)) (bad:Bool):Read × List (List UInt8) × Bool :=
 if (cT l bad).2.1.head?=some [] then(⟨(cT l bad).1,false,zero32⟩,(cT l bad).2.1.drop 1,(cT l bad).2.2)
 else(⟨(cT l bad).1,true,(cD (cT l bad).2.1 (cT l bad).2.2).1⟩,(cD (cT l bad).2.1 (cT l bad).2.2).2)
set_option maxHeartbeats 4000000 in
theorem zDj (B:Nat) (l:List (List UInt8)) (bad:Bool) (hl:l.length≤1000000000) :
  q7 Tryz.prog 55 [.av .ptr (.ptr B zEt [])] (zCV B l bad) fun r H'=>r=.av .str (.s (cT l bad).1)∧H'=zCV B (cT l bad).2.1 (cT l bad).2.2:=by
 refine zov Tryz.func55 cf0 fun imm0 w0=>?_
 cases l with
 | nil=>simp (disch:=omega) [zz,zCV,zz6,cT,Tryz.f55]
 | cons s r =>
  have hz:¬((r.length:Int)+1)=0:=by omega
  have h1:(1:Int)≤(r.length:Int)+1:=by omega
  have htk:List.take r.length (List.map AV.s r)=List.map AV.s r:=List.take_of_length_le (by simp)
  simp (disch:=omega) [zz,zCV,zz6,cT,hz,h1,htk]
  simp (disch:=omega) [zz,Tryz.f55,AV.ers_eq,Function.comp_def]
theorem zDF (s:List UInt8):List.take 32 (List.map (fun b:UInt8=>AV.i .u8 b.toNat) s)++List.drop (min 32 s.length) [AV.i .u8 0,AV.i .u8 0,AV.i .u8 0,AV.i .u8 0,AV.i .u8 0,AV.i .u8 0,AV.i .u8 0,AV.i .u8 0,AV.i .u8 0,AV.i .u8 0,AV.i .u8 0,AV.i .u8 0,AV.i .u8 0,AV.i .u8 0,AV.i .u8 0,AV.i .u8 0,AV.i .u8 0,AV.i .u8 0,AV.i .u8 0,AV.i .u8 0,AV.i .u8 0,AV.i .u8 0,AV.i .u8 0,AV.i .u8 0,AV.i .u8 0,AV.i .u8 0,AV.i .u8 0,AV.i .u8 0,AV.i .u8 0,AV.i .u8 0,AV.i .u8 0,AV.i .u8 0]=(zDH s).map fun b:UInt8=>AV.i .u8 b.toNat:=by
 show _++List.drop (min 32 s.length) ((List.replicate 32 (0:UInt8)).map fun b:UInt8=>AV.i .u8 b.toNat)=_
 unfold zDH zero32
 rw[←List.map_take,←List.map_drop,←List.map_append,List.take_append,List.drop_replicate,List.take_replicate]
 congr 3;omega
theorem zEy {s:List UInt8} (h:s.length=32):List.take 32 (List.map (fun b:UInt8=>AV.i .u8 b.toNat) s)=(zDH s).map fun b:UInt8=>AV.i .u8 b.toNat:=by
 rw[zDU h,List.take_of_length_le (by simp[h])]
abbrev zGB:Cfg:=⟨fun n=>n==3,fun _=>false⟩
set_option maxHeartbeats 4000000 in
theorem zDs (B:Nat) (l:List (List UInt8)) (bad:Bool) (hl:l.length≤1000000000) (hs:∀x∈l,x.length≤1000000000) :
  q7 Tryz.prog 52 [.av .ptr (.ptr B zEt [])] (zCV B l bad) fun r H'=>r=.av (qD Tryz.prog 35) (KW (cD l bad).1)∧H'=zCV B (cD l bad).2.1 (cD l bad).2.2:=by
 refine q7.drop (R:=fun r H'=>r=.av (qD Tryz.prog 35) (KW (cD l bad).1)∧∃B2 o,H'=zCV B (cD l bad).2.1 (cD l bad).2.2++[(B2,o)]) ?_ ?_
 rotate_left
 ·rintro r H' ⟨rfl,B2,o,rfl⟩
  exact⟨_,List.sublist_append_left _ _,rfl,rfl⟩
 refine zov Tryz.func52 zGB fun imm0 w0=>?_
 simp (disch:=omega) [zz,zCV]
 intro B2 hB2
 have hB2':¬B=B2:=fun e=>hB2 e.symm
 obtain⟨s1,hs1⟩:∃s1,(cT l bad).1=s1:=⟨_,rfl⟩
 obtain⟨l1,hl1⟩:∃l1,(cT l bad).2.1=l1:=⟨_,rfl⟩
 obtain⟨b1,hb1⟩:∃b1,(cT l bad).2.2=b1:=⟨_,rfl⟩
 have hs1l:s1.length≤1000000000:=by
  rw[←hs1]
  cases l with
  | nil=>simp[cT]
  | cons x r=>exact hs x (by simp)
 have hcd:cD l bad=(zDH s1,l1,b1||decide (s1.length≠32)):=by simp only[cD,hs1,hl1,hb1]
 have htx:=zDj B l bad hl
 rw[hs1,hl1,hb1]at htx
 rw[hcd]
 refine qE (R:=fun r H'=>r=.av .str (.s s1)∧H'=zCV B l1 b1) (zCV B l bad) [(B2,.var (.arr 32 5) (.agg [.i .u8 0,.i .u8 0,.i .u8 0,.i .u8 0,.i .u8 0,.i .u8 0,.i .u8 0,.i .u8 0,.i .u8 0,.i .u8 0,.i .u8 0,.i .u8 0,.i .u8 0,.i .u8 0,.i .u8 0,.i .u8 0,.i .u8 0,.i .u8 0,.i .u8 0,.i .u8 0,.i .u8 0,.i .u8 0,.i .u8 0,.i .u8 0,.i .u8 0,.i .u8 0,.i .u8 0,.i .u8 0,.i .u8 0,.i .u8 0,.i .u8 0,.i .u8 0]))] (by simp only[zCV];exact List.Perm.swap _ _ _) rfl (by simp[qQ]) (by simp) ?_ ?_
 ·simpa[TV.er,AV.er]using htx
 rintro r H' ⟨rfl,rfl⟩ _
 refine⟨_,HSub.refl _,?_⟩
 cases b1 with
 | true =>
  simp (disch:=omega) [zz,zCV,hB2,hB2',zDF]
  simp (disch:=omega) [zz,Tryz.f52,KW,AV.ers_eq,Function.comp_def,zE5]
 | false =>
  by_cases h32:s1.length=32
  ·have h32':(s1.length:Int)=32:=by omega
   simp (disch:=omega) [zz,zCV,hB2,hB2',h32,h32',zDF,zEy h32]
   simp (disch:=omega) [zz,Tryz.f52,KW,AV.ers_eq,Function.comp_def,zE5]
  ·have h32':¬(s1.length:Int)=32:=by omega
   simp (disch:=omega) [zz,zCV,hB2,hB2',h32,h32',zDF]
   simp (disch:=omega) [zz,Tryz.f52,KW,AV.ers_eq,Function.comp_def,zE5]
theorem zE7 (l:List (List UInt8)) (bad:Bool):(cT l bad).2.1.length≤l.length:=by cases l<;>simp[cT]
theorem zDm {l:List (List UInt8)} {bad:Bool} {x:List UInt8} (h:x∈(cT l bad).2.1):x∈l:=by
 cases l with
 | nil=>simp[cT]at h
 | cons s r=>simp only[cT]at h;exact List.mem_cons_of_mem _ h
theorem zEW {l:List (List UInt8)} {bad:Bool} (hs:∀x∈l,x.length≤1000000000):(cT l bad).1.length≤1000000000:=by
 cases l with
 | nil=>simp[cT]
 | cons x r=>exact hs x (by simp)
set_option maxHeartbeats 4000000 in
theorem zER (B:Nat) (l:List (List UInt8)) (bad:Bool) (hl:l.length≤1000000000) (hs:∀x∈l,x.length≤1000000000) :
  q7 Tryz.prog 53 [.av .ptr (.ptr B zEt [])] (zCV B l bad) fun r H'=>r=.av (.int .i64) (.i .i64 (cN l bad).1)∧H'=zCV B (cN l bad).2.1 (cN l bad).2.2:=by
 have htx:=zDj B l bad hl
 have hs1l:=zEW (bad:=bad) hs
 have hl1l:=zE7 l bad
 obtain⟨N,hN⟩:∃N,cN l bad=N:=⟨_,rfl⟩
 rw[hN]
 unfold cN at hN
 obtain⟨s1,hs1⟩:∃s1,(cT l bad).1=s1:=⟨_,rfl⟩
 obtain⟨l1,hl1⟩:∃l1,(cT l bad).2.1=l1:=⟨_,rfl⟩
 obtain⟨b1,hb1⟩:∃b1,(cT l bad).2.2=b1:=⟨_,rfl⟩
 rw[hs1,hl1,hb1]at hN htx
 rw[hs1]at hs1l
 rw[hl1]at hl1l
 refine zov Tryz.func53 cf0 fun imm0 w0=>?_
 simp (disch:=omega) [zz]
 refine jP (R:=fun r H'=>r=.av .str (.s s1)∧H'=zCV B l1 b1) rfl (by simp[qQ]) (by simp) ?_ ?_
 ·simpa[TV.er,AV.er]using htx
 rintro r H' ⟨rfl,rfl⟩
 simp (disch:=omega) [zz]
 refine zcv (zGd s1 hs1l) ?_
 have hdiv:((l1.length:Int).tdiv 2)=(l1.length:Int) / 2:=Int.tdiv_eq_ediv_of_nonneg (by omega)
 cases hi:zDD s1 with
 | none =>
  rw[hi]at hN
  simp only at hN
  simp (disch:=omega) [zz,zDO,zCV]
  simp (disch:=omega) [zz,Tryz.f53,←hN]
 | some n =>
  rw[hi]at hN
  simp only at hN
  obtain⟨_,_,hn0,hn1⟩:=zFk hi
  by_cases h0:n<0
  ·rw[if_neg (by omega)]at hN
   simp (disch:=omega) [zz,zDO,zCV,h0]
   simp (disch:=omega) [zz,Tryz.f53,←hN]
  by_cases h1:(l1.length:Int) / 2<n
  ·rw[if_neg (by omega)]at hN
   simp (disch:=omega) [zz,zDO,zCV,h0,hdiv,h1]
   simp (disch:=omega) [zz,Tryz.f53,←hN]
  ·rw[if_pos (by omega)]at hN
   simp (disch:=omega) [zz,zDO,zCV,h0,hdiv,h1]
   simp (disch:=omega) [zz,Tryz.f53,←hN]
set_option maxHeartbeats 4000000 in
theorem zFK (B:Nat) (l:List (List UInt8)) (bad:Bool) (hl:l.length≤1000000000) (hs:∀x∈l,x.length≤1000000000) :
  q7 Tryz.prog 54 [.av .ptr (.ptr B zEt [])] (zCV B l bad) fun r H'=>r=.av (qD Tryz.prog 54) (qI (cR l bad).1)∧H'=zCV B (cR l bad).2.1 (cR l bad).2.2:=by
 have htx:=zDj B l bad hl
 have hl1l:=zE7 l bad
 have hm:∀x∈(cT l bad).2.1,x.length≤1000000000:=fun x hx=>hs x (zDm hx)
 obtain⟨N,hN⟩:∃N,cR l bad=N:=⟨_,rfl⟩
 rw[hN]
 unfold cR at hN
 obtain⟨s1,hs1⟩:∃s1,(cT l bad).1=s1:=⟨_,rfl⟩
 obtain⟨l1,hl1⟩:∃l1,(cT l bad).2.1=l1:=⟨_,rfl⟩
 obtain⟨b1,hb1⟩:∃b1,(cT l bad).2.2=b1:=⟨_,rfl⟩
 rw[hs1,hl1,hb1]at hN htx
 rw[hl1]at hl1l hm
 have hdg:=zDs B l1 b1 (by omega) hm
 have htx2:=zDj B l1 b1 (by omega)
 obtain⟨d,hd⟩:∃d,cD l1 b1=d:=⟨_,rfl⟩
 obtain⟨d1,d2,d3⟩:=d
 rw[hd]at hdg hN
 refine zov Tryz.func54 cf0 fun imm0 w0=>?_
 simp (disch:=omega) [zz]
 refine jP (R:=fun r H'=>r=.av .str (.s s1)∧H'=zCV B l1 b1) rfl (by simp[qQ]) (by simp) ?_ ?_
 ·simpa[TV.er,AV.er]using htx
 rintro r H' ⟨rfl,rfl⟩
 cases hl2:l1 with
 | nil =>
  subst hl2
  simp (disch:=omega) [zz,zCV,zz6]
  refine jP (R:=fun r H'=>r=.av (qD Tryz.prog 35) (KW d1)∧H'=zCV B d2 d3) rfl (by simp[qQ]) (by simp) ?_ ?_
  ·simpa[TV.er,AV.er,zCV,zz6,AV.er,AV.ers_eq,Function.comp_def,AV.erk,AV.erks,q8.er_cons,q8.er_nil,HObj.er_var,Tok.k]using hdg
  rintro r' H' ⟨rfl,rfl⟩
  simp (disch:=omega) [zz,zCV]
  simp (disch:=omega) [zz,Tryz.f54,←hN,qI]
  rfl
 | cons x r =>
  subst hl2
  have hpos:(0:Int)<(r.length:Int)+1:=by omega
  by_cases hx:x=[]
  ·subst hx
   simp only[cT]at htx2
   rw[if_pos (by rfl)]at hN
   simp (disch:=omega) [zz,zCV,zz6,hpos]
   refine jP (R:=fun r' H'=>r'=.av .str (.s [])∧H'=zCV B r b1) rfl (by simp[qQ]) (by simp) ?_ ?_
   ·simpa[TV.er,AV.er,zCV,zz6,AV.er,AV.ers_eq,AV.erk,AV.erks,AV.erks_eq,Function.comp_def,q8.er_cons,q8.er_nil,HObj.er_var,Tok.k]using htx2
   rintro r' H' ⟨rfl,rfl⟩
   simp (disch:=omega) [zz,zCV]
   simp (disch:=omega) [zz,Tryz.f54,←hN,qI,zCZ]
   rfl
  ·rw[if_neg (by simpa using hx)]at hN
   simp (disch:=omega) [zz,zCV,zz6,hpos,hx]
   refine jP (R:=fun r H'=>r=.av (qD Tryz.prog 35) (KW d1)∧H'=zCV B d2 d3) rfl (by simp[qQ]) (by simp) ?_ ?_
   ·simpa[TV.er,AV.er,zCV,zz6,AV.er,AV.ers_eq,Function.comp_def,AV.erk,AV.erks,q8.er_cons,q8.er_nil,HObj.er_var,Tok.k]using hdg
   rintro r' H' ⟨rfl,rfl⟩
   simp (disch:=omega) [zz,zCV]
   simp (disch:=omega) [zz,Tryz.f54,←hN,qI]
   rfl
end Go.Proofs.YtcgpcfcbienapaaGreatDoor
end
section
set_option maxRecDepth 100000
namespace Go.Proofs.YtcgpcfcbienapaaGreatDoor
open Go Go.Ab
open Classical
variable [Sel]
end Go.Proofs.YtcgpcfcbienapaaGreatDoor
end
section
set_option maxRecDepth 100000
namespace Go.Proofs.YtcgpcfcbienapaaGreatDoor
open Go Go.Ab
open Classical
variable [Sel] [SelPow]
@[simp] theorem zo6:qZ Tryz.prog 89=true:=by kernel_rfl
@[simp] theorem zrM:z8 Tryz.prog (.func 89)=false:=q9 zo6
@[simp] theorem zGb:qZ Tryz.prog 51=true:=by kernel_rfl
@[simp] theorem zGz:z8 Tryz.prog (.func 51)=false:=q9 zGb
noncomputable def zD5:HeadR→TV
 | .ok n rest=>.tup [(.int .i64,.i .i64 n),(.str,.s rest),(.int .i64,.i .i64 0)]
 | .err e=>.tup [(.int .i64,.i .i64 0),(.str,.s []),(.int .i64,.i .i64 e)]
theorem zEE {c:UInt8} (h:48≤c.toNat):IntKind.u8.wrap ((c.toNat:Int)-48)=((c.toNat-48:Nat):Int):=by
 have:=c.toNat_lt
 have e:((c.toNat:Int)-48)=((c.toNat-48:Nat):Int):=by omega
 rw[e]
 simp only[IntKind.wrap,IntKind.signed,IntKind.bits]
 simp;omega
set_option maxHeartbeats 8000000 in
theorem zFR (b:List UInt8) (hb:b.length≤1000000000):PC Tryz.prog 89 [.av .str (.s b)] (zD5 (zD2 0 0 b)):=by
 obtain⟨R,hR⟩:∃R,zD2 0 0 b=R:=⟨_,rfl⟩
 rw[hR]
 refine zow Tryz.func89 cf0 fun imm0 w0=>?_
 simp (disch:=omega) [zz]
 refine AT.loop' (α:=Nat × Nat) (fun k=>St.of [(0,.av .str (.s b)),(5,.av (.int .i64) (.i .i64 k.2)),(9,.av (.int .i64) (.i .i64 b.length)),(10,.av (.int .i64) (.i .i64 k.1))] [] (fun _=>0) [])
  (fun k=>k.1≤b.length∧zD2 k.1 k.2 (b.drop k.1)=R∧k.1≤9∧k.2<10 ^ k.1) (fun k=>b.length-k.1) (0,0) ?_ ?_ ?_
 ·apply Le.of<;>simp[qU,qG,qO,qH,qP,qK,qF,qI,qJ,qN,]<;>try omega
 ·simp[hR]
 rintro⟨k,n⟩ ⟨hk,hh,h9,hn⟩ KL hN hE
 simp only at hk hh h9 hn hN
 have hn9:n<1000000000:=Nat.lt_of_lt_of_le hn (Nat.pow_le_pow_right (by decide) h9)
 refine qM (cf:=cf0) laid mixed _ _ _ (by kernel_rfl) ?_
 by_cases hlt:k<b.length
 ·have hlt':(k:Int)<b.length:=by omega
  have hd:b.drop k=b[k]::b.drop (k+1):=(List.getElem_cons_drop (h:=hlt)).symm
  obtain⟨c,hc⟩:∃c,b[k]=c:=⟨_,rfl⟩
  rw[hc]at hd
  have hc256:c.toNat<256:=c.toNat_lt
  rw[hd]at hh
  unfold zD2 at hh
  rcases Nat.eq_zero_or_pos k with rfl|hk0
  ·have hn00:n=0:=by simpa using hn
   subst hn00
   have hlt0:(0:Int)<b.length:=by omega
   by_cases h58:c=58
   ·subst h58
    rw[if_neg (by simp),if_pos (.inl (by decide))]at hh
    simp (disch:=omega) [zz,hlt0,hlt,hc]
    refine hE _ _ (by simp) ?_
    simp (disch:=omega) [zz,Tryz.f89,←hh,zD5]
   have h58':¬(c.toNat:Int)=58:=by have:=YH (n:=58) (by omega) h58;simpa using this
   rw[if_neg (by simp[h58])]at hh
   by_cases hlo:c.toNat<48
   ·have hlo':(c.toNat:Int)<48:=by omega
    rw[if_pos (.inl (by simp[zDt];omega))]at hh
    simp (disch:=omega) [zz,hlt0,hlt,hc,h58',hlo']
    refine hE _ _ (by simp) ?_
    simp (disch:=omega) [zz,Tryz.f89,←hh,zD5]
   have hlo':¬(c.toNat:Int)<48:=by omega
   by_cases hhi:57<c.toNat
   ·have hhi':(57:Int)<c.toNat:=by omega
    rw[if_pos (.inl (by simp[zDt];omega))]at hh
    simp (disch:=omega) [zz,hlt0,hlt,hc,h58',hlo',hhi']
    refine hE _ _ (by simp) ?_
    simp (disch:=omega) [zz,Tryz.f89,←hh,zD5]
   have hhi':¬(57:Int)<c.toNat:=by omega
   have hsub:=zEE (c:=c) (by omega)
   rw[if_neg (by simp only[zDt,Bool.and_eq_false_iff,decide_eq_false_iff_not];omega)]at hh
   simp (disch:=omega) [zz,hlt0,hlt,hc,h58',hlo',hhi',hsub]
   refine hN _ (1,c.toNat-48) ?_ ⟨by omega,by simpa using hh,by omega,by simp only[Nat.pow_one];omega⟩ (by simp only;omega)
   apply Le.of<;>simp[qU,qG,qO,qH,qP,qK,qF,qI,qJ,qN,]<;>try omega
  have hk0':(0:Int)<k:=by omega
  by_cases h58:c=58
  ·subst h58
   rw[if_pos ⟨rfl,hk0⟩]at hh
   simp (disch:=omega) [zz,hlt',hc,hk0',hk0]
   (repeat with_reducible refine om ?_)
   refine hE _ _ (by simp) ?_
   simp (disch:=omega) [zz,Tryz.f89,←hh,zD5]
  have h58':¬(c.toNat:Int)=58:=by have:=YH (n:=58) (by omega) h58;simpa using this
  rw[if_neg (by simp[h58])]at hh
  by_cases hlo:c.toNat<48
  ·have hlo':(c.toNat:Int)<48:=by omega
   rw[if_pos (.inl (by simp[zDt];omega))]at hh
   simp (disch:=omega) [zz,hlt',hc,h58',hlo']
   refine hE _ _ (by simp) ?_
   simp (disch:=omega) [zz,Tryz.f89,←hh,zD5]
  have hlo':¬(c.toNat:Int)<48:=by omega
  by_cases hhi:57<c.toNat
  ·have hhi':(57:Int)<c.toNat:=by omega
   rw[if_pos (.inl (by simp[zDt];omega))]at hh
   simp (disch:=omega) [zz,hlt',hc,h58',hlo',hhi']
   refine hE _ _ (by simp) ?_
   simp (disch:=omega) [zz,Tryz.f89,←hh,zD5]
  have hhi':¬(57:Int)<c.toNat:=by omega
  by_cases hk9:k=9
  ·rw[if_pos (.inr (.inl hk9))]at hh
   subst hk9
   have hlt9:(9:Int)<b.length:=by omega
   simp (disch:=omega) [zz,hlt9,hlt,hc,h58',hlo',hhi']
   refine hE _ _ (by simp) ?_
   simp (disch:=omega) [zz,Tryz.f89,←hh,zD5]
  have hk9':¬(k:Int)=9:=by omega
  have hsub:=zEE (c:=c) (by omega)
  by_cases hn0:n=0
  ·subst hn0
   rw[if_pos (.inr (.inr ⟨hk0,rfl⟩))]at hh
   simp (disch:=omega) [zz,hlt',hc,h58',hlo',hhi',hk9',hk0',hk0]
   refine hE _ _ (by simp) ?_
   simp (disch:=omega) [zz,Tryz.f89,←hh,zD5]
  ·have hn0':¬(n:Int)=0:=by omega
   rw[if_neg (by simp only[zDt,Bool.and_eq_false_iff,decide_eq_false_iff_not];omega)]at hh
   simp (disch:=omega) [zz,hlt',hc,h58',hlo',hhi',hk9',hk0',hk0,hn0',hn0,hsub]
   refine hN _ (k+1,10*n+(c.toNat-48)) ?_ ⟨by omega,hh,by omega,by simp only[Nat.pow_succ];omega⟩ (by simp only;omega)
   apply Le.of<;>simp[qU,qG,qO,qH,qP,qK,qF,qI,qJ,qN,]<;>try omega
 ·have hlt':¬(k:Int)<b.length:=by omega
  rw[List.drop_eq_nil_of_le (by omega)]at hh
  simp only[zD2]at hh
  simp (disch:=omega) [zz,hlt']
  refine hE _ _ (by simp) ?_
  simp (disch:=omega) [zz,Tryz.f89,←hh,zD5]
theorem zEi:∀ {b:List UInt8} {k n:Nat} {e:Int},zD2 k n b=.err e→e=3∨e=4
 | [],_,_,_,h=>by simp[zD2]at h;omega
 | c::r,k,n,e,h=>by
  unfold zD2 at h
  split at h
  ·cases h
  ·split at h
   ·simp only[HeadR.err.injEq]at h;omega
   ·exact zEi h
noncomputable def zDn (x:List (List UInt8) × Int):TV:=.tup [(.slice 9,.sl .no (zz6 x.1)),(.int .i64,.i .i64 x.2)]
set_option maxHeartbeats 8000000 in
theorem zFo (b:List UInt8) (hb:b.length≤1000000000):PC Tryz.prog 51 [.av .str (.s b)] (zDn (zD9 b)):=by
 obtain⟨R,hR⟩:∃R,zD9 b=R:=⟨_,rfl⟩
 rw[hR]
 unfold zD9 at hR
 refine zow Tryz.func51 cf0 fun imm0 w0=>?_
 simp (disch:=omega) [zz]
 refine AT.loop' (α:=Nat × Nat × List (List UInt8) × List UInt8) (fun x=>St.of [(0,.av .str (.s x.2.2.2)),(4,.av (.slice 9) (.sl (if x.1=0 then .full else .own 30 x.1) (zz6 x.2.2.1)))] [] (fun j=>if j=30 then x.1 else 0) [])
  (fun x=>zDb x.2.1 x.2.2.1 x.2.2.2=R∧x.2.2.2.length<x.2.1∧x.2.2.2.length+x.2.2.1.length≤b.length∧(x.1=0→x.2.2.1=[])) (fun x=>x.2.1) (0,b.length+1,[],b) ?_ ?_ ?_
 ·apply Le.of<;>simp[qU,qG,qO,qH,qP,qK,qF,qI,qJ,qN,zz6]<;>try omega
 ·exact⟨hR,by simp,by simp,fun _=>rfl⟩
 rintro⟨tk,f,out,r⟩ ⟨hr,hf,hlen,h0⟩ KL hN hE
 simp only at hr hf hlen h0 hN
 refine qM (cf:=cf0) laid mixed _ _ _ (by kernel_rfl) ?_
 cases f with
 | zero=>omega
 | succ f =>
 unfold zDb at hr
 by_cases hre:r=[]
 ·rw[if_pos hre]at hr
  subst hre
  simp (disch:=omega) [zz]
  refine hE _ _ (by simp) ?_
  simp (disch:=omega) [zz,Tryz.f51,←hr,zDn]
 rw[if_neg hre]at hr
 simp (disch:=omega) [zz,hre]
 refine zcv (zFR r (by omega)) ?_
 cases hh:zD2 0 0 r with
 | err e =>
  rw[hh]at hr
  have he:¬e=0:=by rcases zEi hh with h|h<;>omega
  simp (disch:=omega) [zz,zD5,he]
  refine hE _ _ (by simp) ?_
  simp (disch:=omega) [zz,Tryz.f51,←hr,zDn,zz6]
 | ok n rest =>
  rw[hh]at hr
  simp only at hr
  have hl:=zDE hh
  by_cases hn:rest.length<n
  ·have hn':(rest.length:Int)<n:=by omega
   rw[if_pos hn]at hr
   simp (disch:=omega) [zz,zD5,hn']
   refine hE _ _ (by simp) ?_
   simp (disch:=omega) [zz,Tryz.f51,←hr,zDn,zz6]
  ·have hn':¬(rest.length:Int)<n:=by omega
   have hn2:(n:Int)≤rest.length:=by omega
   rw[if_neg hn]at hr
   cases tk with
   | zero =>
    obtain rfl:=h0 rfl
    simp (disch:=omega) [zz,zD5,hn',hn2,wB,zz6]
    refine hN _ (1,f,[rest.take n],rest.drop n) ?_ ⟨by simpa using hr,by simp;omega,by simp at hlen ⊢;omega,by simp⟩ (by simp only;omega)
    apply Le.of<;>simp[qU,qG,qO,qH,qP,qK,qF,qI,qJ,qN,zz6]<;>try omega
   | succ tk =>
    simp (disch:=omega) [zz,zD5,hn',hn2,wB]
    refine⟨by omega,by omega,?_⟩
    refine hN _ (tk+2,f,out++[rest.take n],rest.drop n) ?_ ⟨hr,by simp;omega,by simp;omega,by simp⟩ (by simp only;omega)
    apply Le.of<;>simp[qU,qG,qO,qH,qP,qK,qF,qI,qJ,qN,zz6]<;>try omega
    all_goals (intro j;by_cases hj:j=30<;>simp[hj])
end Go.Proofs.YtcgpcfcbienapaaGreatDoor
end
section
set_option maxRecDepth 100000
namespace Go.Proofs.YtcgpcfcbienapaaGreatDoor
open Go Go.Ab
open Classical
variable [Sel] [SelPow] [SelErr]
def pR:Nat→List (List UInt8)→Bool→List Read × List (List UInt8) × Bool
 | 0,l,b=>([],l,b)
 | n+1,l,b=>((cR l b).1::(pR n (cR l b).2.1 (cR l b).2.2).1,(pR n (cR l b).2.1 (cR l b).2.2).2)
def pM:Nat→List (List UInt8)→Bool→List Made × Bool
 | 0,_,b=>([],b)
 | f+1,l,b=>if l=[]∨b=true then([],b) else
   (⟨(cT l b).1,(cD (cT l b).2.1 (cT l b).2.2).1⟩::(pM f (cD (cT l b).2.1 (cT l b).2.2).2.1 (cD (cT l b).2.1 (cT l b).2.2).2.2).1,(pM f (cD (cT l b).2.1 (cT l b).2.2).2.1 (cD (cT l b).2.1 (cT l b).2.2).2.2).2)
noncomputable def zFW (t:zaP):zaP × Int:=if zCW t=0 then(t,0) else(tr0,zCW t)
noncomputable def zF4 (l:List (List UInt8)):zaP × Int :=
 let k:=cD l false
 let n:=cN k.2.1 k.2.2
 let r:=pR n.1.toNat n.2.1 n.2.2
 let m:=pM (l.length+1) r.2.1 r.2.2
 if m.2=true then(tr0,3) else zFW ⟨k.1,r.1,m.1⟩
noncomputable def zDk (x:zaP × Int):TV:=.tup [(qD Tryz.prog 46,qK x.1),(.int .i64,.i .i64 x.2)]
noncomputable def zEz (b:List UInt8):zaP × Int:=if (zD9 b).2=0 then zF4 (zD9 b).1 else(tr0,(zD9 b).2)
theorem zEj:∀ {f:Nat} {out:List (List UInt8)} {b:List UInt8} {m:Nat},(∀x∈out,x.length≤m)→b.length≤m→(∀x∈(zDb f out b).1,x.length≤m)∧(zDb f out b).1.length≤out.length+b.length
 | 0,out,b,m,h,hb=>⟨h,by simp[zDb]⟩
 | f+1,out,b,m,h,hb=>by
  unfold zDb
  split
  ·exact⟨h,by simp⟩
  ·cases hh:zD2 0 0 b with
   | err e=>exact⟨by simp,by simp⟩
   | ok n rest =>
    have hl:=zDE hh
    simp only
    split
    ·exact⟨by simp,by simp⟩
    ·obtain⟨h1,h2⟩:=zEj (f:=f) (out:=out++[rest.take n]) (b:=rest.drop n) (m:=m) (fun x hx=>by
      rcases List.mem_append.1 hx with hx|hx
      ·exact h x hx
      ·rw[List.mem_singleton]at hx;subst hx;rw[List.length_take];omega) (by rw[List.length_drop];omega)
     refine⟨h1,Nat.le_trans h2 ?_⟩
     rw[List.length_append,List.length_drop];simp;omega
theorem zFt (b:List UInt8):(∀x∈(zD9 b).1,x.length≤b.length)∧(zD9 b).1.length≤b.length:=by
 have:=zEj (f:=b.length+1) (out:=[]) (b:=b) (m:=b.length) (by simp) (Nat.le_refl _)
 simpa[zD9]using this
def tkR (d:Nat):Nat→Tok
 | 0=>.full
 | k+1=>.own d (k+1)
abbrev zFE:Cfg:=⟨fun n=>n==22,fun n=>n==40||n==64||n==1000009||n==1000012||n==2000037||n==2000058||n==2000060⟩
theorem zEs (l:List (List UInt8)) (b:Bool):(cD l b).2.1.length≤l.length∧∀x∈(cD l b).2.1,x∈l:=⟨zE7 l b,fun x hx=>zDm hx⟩
theorem zG5 (l:List (List UInt8)) (b:Bool):(cN l b).2.1.length≤l.length∧(∀x∈(cN l b).2.1,x∈l)∧0≤(cN l b).1∧(cN l b).1≤l.length:=by
 have h1:=zE7 l b
 unfold cN
 split
 ·split
  ·rename_i h;exact⟨h1,fun x hx=>zDm hx,h.1,by have:=h.2;simp only;omega⟩
  ·exact⟨h1,fun x hx=>zDm hx,by simp,by simp⟩
 ·exact⟨h1,fun x hx=>zDm hx,by simp,by simp⟩
theorem zFD (l:List (List UInt8)) (b:Bool):(cR l b).2.1.length≤l.length∧∀x∈(cR l b).2.1,x∈l:=by
 have h1:=zE7 l b
 have h2:=zEs (cT l b).2.1 (cT l b).2.2
 unfold cR
 split
 ·exact⟨by simp;omega,fun x hx=>zDm (List.mem_of_mem_drop hx)⟩
 ·exact⟨by have:=h2.1;simp only;omega,fun x hx=>zDm (h2.2 x hx)⟩
theorem zFT (l:List (List UInt8)) (b:Bool):(cR l b).1.path=(cT l b).1:=by unfold cR;split<;>rfl
theorem zF2:∀(n:Nat) (l:List (List UInt8)) (b:Bool),(∀x∈l,x.length≤1000000000)→∀r∈(pR n l b).1,r.path.length≤1000000000
 | 0,l,b,h,r,hr=>by simp[pR]at hr
 | n+1,l,b,h,r,hr=>by
  simp only[pR]at hr
  rcases List.mem_cons.1 hr with rfl|hr
  ·rw[zFT];exact zEW h
  ·exact zF2 n _ _ (fun x hx=>h x ((zFD l b).2 x hx)) r hr
theorem zF1:∀(n:Nat) (l:List (List UInt8)) (b:Bool),(∀x∈l,x.length≤1000000000)→∀r∈(pM n l b).1,r.path.length≤1000000000
 | 0,l,b,h,r,hr=>by simp[pM]at hr
 | n+1,l,b,h,r,hr=>by
  simp only[pM]at hr
  split at hr
  ·cases hr
  ·rcases List.mem_cons.1 hr with rfl|hr
   ·exact zEW h
   ·exact zF1 n _ _ (fun x hx=>h x (zDm ((zEs _ _).2 x hx))) r hr
set_option maxHeartbeats 16000000 in
theorem zFN (b:List UInt8) (hb:b.length≤1000000000):PC Tryz.prog 25 [.av .str (.s b)] (zDk (zEz b)):=by
 obtain⟨hl1,hl2⟩:=zFt b
 obtain⟨X,hX⟩:∃X,zEz b=X:=⟨_,rfl⟩
 rw[hX]
 unfold zEz at hX
 have htx:=zFo b hb
 obtain⟨L,hL⟩:∃L,zD9 b=L:=⟨_,rfl⟩
 rw[hL]at hX htx hl1 hl2
 obtain⟨l,e⟩:=L
 simp only at hX hl1 hl2
 unfold PC
 refine q7.sub (R:=fun r H'=>r=zDk X) ?_ (fun r H' hr _=>⟨[],HSub.of_sub (List.nil_sublist _),hr,rfl⟩)
 refine zov Tryz.func25 zFE fun imm0 w0=>?_
 simp (disch:=omega) [zz]
 refine zcv htx ?_
 by_cases he:e=0
 rotate_left
 ·rw[if_neg he]at hX
  simp (disch:=omega) [zz,zDn,he]
  simp (disch:=omega) [zz,Tryz.f25,←hX,zDk,tr0,qK,qF,qJ,zCZ]
 subst he
 rw[if_pos rfl]at hX
 simp (disch:=omega) [zz,zDn]
 intro B
 replace hl2:l.length≤1000000000:=by omega
 replace hl1:∀x∈l,x.length≤1000000000:=fun x hx=>Nat.le_trans (hl1 x hx) hb
 unfold zF4 at hX
 simp only at hX
 have hk:=zDs B l false hl2 hl1
 have hks:=zEs l false
 obtain⟨K,hK⟩:∃K,cD l false=K:=⟨_,rfl⟩
 rw[hK]at hk hks hX
 obtain⟨kd,l1,b1⟩:=K
 simp only at hk hks hX
 have hn:=zER B l1 b1 (by omega) (fun x hx=>hl1 x (hks.2 x hx))
 have hns:=zG5 l1 b1
 obtain⟨N,hN⟩:∃N,cN l1 b1=N:=⟨_,rfl⟩
 rw[hN]at hn hns hX
 obtain⟨n,l2,b2⟩:=N
 simp only at hn hns hX
 obtain⟨m,rfl⟩:∃m:Nat,n=(m:Int):=⟨n.toNat,by omega⟩
 simp only[Int.toNat_natCast]at hX
 obtain⟨RR,hRR⟩:∃RR,pR m l2 b2=RR:=⟨_,rfl⟩
 rw[hRR]at hX
 have hm2:∀x∈l2,x.length≤1000000000:=fun x hx=>hl1 x (hks.2 x (hns.2.1 x hx))
 refine zio (R:=fun r H'=>r=.av (qD Tryz.prog 35) (KW kd)∧H'=zCV B l1 b1) (zCV B l false) [] (by simp[zCV]) rfl (by simp) (by simp) ?_ ?_
 ·simpa[TV.er,AV.er]using hk
 rintro r H' ⟨rfl,rfl⟩ _
 refine⟨_,HSub.refl _,?_⟩
 simp (disch:=omega) [zz,zCV]
 refine zio (R:=fun r H'=>r=.av (.int .i64) (.i .i64 m)∧H'=zCV B l2 b2) (zCV B l1 b1) [] (by simp[zCV]) rfl (by simp) (by simp) ?_ ?_
 ·simpa[TV.er,AV.er]using hn
 rintro r H' ⟨rfl,rfl⟩ _
 refine⟨_,HSub.refl _,?_⟩
 simp (disch:=omega) [zz,zCV]
 refine AT.loop' (α:=Nat × List Read × List (List UInt8) × Bool) (fun x=>St.of [(2,.loc 2 []),(6,.av .ptr (.ptr B zEt [])),(7,.av .func (.bm 52 [.ptr B zEt []])),(9,.loc 9 []),(31,.av (.int .i64) (.i .i64 m)),(32,.av (.int .i64) (.i .i64 x.1))] [(2,(qD Tryz.prog 46,.agg [KW zero32,.sl .full [],.sl .full []])),(9,(qD Tryz.prog 46,.agg [KW kd,.sl (tkR 39 x.1) (x.2.1.map qI),.sl .full []]))] (fun j=>if j=39 then x.1 else 0) (zCV B x.2.2.1 x.2.2.2))
  (fun x=>x.1≤m∧x.2.1.length=x.1∧(x.2.1++(pR (m-x.1) x.2.2.1 x.2.2.2).1,(pR (m-x.1) x.2.2.1 x.2.2.2).2)=RR∧x.2.2.1.length≤l2.length∧∀y∈x.2.2.1,y∈l2) (fun x=>m-x.1) (0,[],l2,b2) ?_ ?_ ?_
 ·apply Le.of<;>simp[qU,qG,qO,qH,qP,qK,qF,qI,qJ,qN,zCZ,tkR,zCV]<;>try omega
 ·exact⟨by simp,rfl,by simp[hRR],by simp,fun y hy=>hy⟩
 rintro⟨i,acc,lc,bc⟩ ⟨hi,hacc,hpr,hlc,hmc⟩ KL hNx hE
 simp only at hi hacc hpr hlc hmc hNx
 refine qM (cf:=zFE) laid mixed _ _ _ (by kernel_rfl) ?_
 by_cases hlt:i<m
 ·have hrd:=zFK B lc bc (by omega) (fun x hx=>hm2 x (hmc x hx))
  have hrs:=zFD lc bc
  have hmi:m-i=(m-(i+1))+1:=by omega
  rw[hmi]at hpr
  unfold pR at hpr
  obtain⟨C,hC⟩:∃C,cR lc bc=C:=⟨_,rfl⟩
  rw[hC]at hrd hrs hpr
  obtain⟨rd,l3,b3⟩:=C
  simp only at hrd hrs hpr
  cases i with
  | zero =>
   have hlt':(0:Int)<m:=by omega
   obtain rfl:=List.length_eq_zero_iff.1 hacc
   simp (disch:=omega) [zz,hlt',hlt,tkR]
   refine jW.of [0,1,2,3,4,5,6,7] [0,1] (by kernel_rfl) ?_
   simp (disch:=omega) [zz]
   (repeat with_reducible refine om ?_)
   refine jP (R:=fun r H'=>r=.av (qD Tryz.prog 54) (qI rd)∧H'=zCV B l3 b3) rfl (by simp[qQ]) (by simp) ?_ ?_
   ·simpa[TV.er,AV.er]using hrd
   rintro r H' ⟨rfl,rfl⟩
   simp (disch:=omega) [zz,wB,zCV]
   (repeat with_reducible refine om ?_)
   refine hNx _ (1,[rd],l3,b3) ?_ ⟨by simp only;omega,rfl,by simpa using hpr,by simp only;omega,fun y hy=>hmc y (hrs.2 y hy)⟩ (by simp only;omega)
   apply Le.of<;>simp[qU,qG,qO,qH,qP,qK,qF,qI,qJ,qN,tkR,zCV]<;>try omega
  | succ i =>
   have hlt':(i:Int)+1<m:=by omega
   have hge:(0:Int)≤(i:Int)+1:=by omega
   simp (disch:=omega) [zz,hlt',hlt,tkR]
   refine jW.of [0,1,2,3,4,5,6,7] [0,1] (by kernel_rfl) ?_
   simp (disch:=omega) [zz]
   (repeat with_reducible refine om ?_)
   refine jP (R:=fun r H'=>r=.av (qD Tryz.prog 54) (qI rd)∧H'=zCV B l3 b3) rfl (by simp[qQ]) (by simp) ?_ ?_
   ·simpa[TV.er,AV.er]using hrd
   rintro r H' ⟨rfl,rfl⟩
   simp (disch:=omega) [zz,wB,zCV,hacc]
   (repeat with_reducible refine om ?_)
   refine hNx _ (i+2,acc++[rd],l3,b3) ?_ ⟨by simp only;omega,by simp;omega,by simpa using hpr,by simp only;omega,fun y hy=>hmc y (hrs.2 y hy)⟩ (by simp only;omega)
   apply Le.of<;>simp[qU,qG,qO,qH,qP,qK,qF,qI,qJ,qN,tkR,zCV]<;>try omega
   all_goals (intro j;by_cases hj:j=39<;>simp[hj])
 have hin:i=m:=by omega
 have hlt':¬(i:Int)<m:=by omega
 rw[hin,Nat.sub_self]at hpr
 simp only[pR,List.append_nil]at hpr
 simp (disch:=omega) [zz,hlt']
 refine hE _ _ (by simp) ?_
 clear hNx hE
 subst hpr
 simp only at hX
 obtain⟨MM,hMM⟩:∃MM,pM (l.length+1) lc bc=MM:=⟨_,rfl⟩
 rw[hMM]at hX
 simp (disch:=omega) [zz]
 refine AT.loop' (α:=Nat × List Made × List (List UInt8) × Bool × Nat) (fun x=>St.of [(2,.loc 2 []),(6,.av .ptr (.ptr B zEt [])),(7,.av .func (.bm 52 [.ptr B zEt []])),(9,.loc 9 [])] [(2,(qD Tryz.prog 46,.agg [KW zero32,.sl .full [],.sl .full []])),(9,(qD Tryz.prog 46,.agg [KW kd,.sl (tkR 39 i) (acc.map qI),.sl (tkR 63 x.1) (x.2.1.map qN)]))] (fun j=>if j=63 then x.1 else if j=39 then i else 0) (zCV B x.2.2.1 x.2.2.2.1))
  (fun x=>x.2.1.length=x.1∧(x.2.1++(pM x.2.2.2.2 x.2.2.1 x.2.2.2.1).1,(pM x.2.2.2.2 x.2.2.1 x.2.2.2.1).2)=MM∧x.2.2.1.length<x.2.2.2.2∧x.1+x.2.2.1.length≤l.length∧∀y∈x.2.2.1,y∈l2) (fun x=>x.2.2.2.2) (0,[],lc,bc,l.length+1) ?_ ?_ ?_
 ·apply Le.of<;>simp[qU,qG,qO,qH,qP,qK,qF,qI,qJ,qN,zCZ,tkR,zCV]<;>try omega
  all_goals (intro j;by_cases hj:j=63<;>simp[hj])
 ·exact⟨rfl,by simp[hMM],by simp only;omega,by simp only;omega,hmc⟩
 rintro⟨i2,acc2,lw,bw,f⟩ ⟨hacc2,hpm,hlw,hi2,hmw⟩ KL2 hNx hE
 simp only at hacc2 hpm hlw hi2 hmw hNx
 refine qM (cf:=zFE) laid mixed _ _ _ (by kernel_rfl) ?_
 cases f with
 | zero=>omega
 | succ f =>
 unfold pM at hpm
 by_cases hst:lw=[]∨bw=true
 ·rw[if_pos hst]at hpm
  simp only[List.append_nil]at hpm
  subst hpm
  cases bw with
  | true =>
   rw[if_pos rfl]at hX
   cases lw with
   | nil =>
    simp (disch:=omega) [zz,zCV,zz6]
    refine hE _ _ (by simp) ?_
    simp (disch:=omega) [zz,zCV]
    simp (disch:=omega) [zz,Tryz.f25,←hX,zDk,tr0,qK,qF,qJ,zCZ]
   | cons s r =>
    have hpos:(0:Int)<(r.length:Int)+1:=by omega
    simp (disch:=omega) [zz,zCV,zz6,hpos]
    refine hE _ _ (by simp) ?_
    simp (disch:=omega) [zz,zCV]
    simp (disch:=omega) [zz,Tryz.f25,←hX,zDk,tr0,qK,qF,qJ,zCZ]
  | false =>
   rw[if_neg (by simp)]at hX
   have hlw0:lw=[]:=by rcases hst with h|h;exact h;cases h
   subst hlw0
   have htp:TrP ⟨kd,acc,acc2⟩:=by
    have p1:=zF2 m l2 b2 hm2
    rw[hRR]at p1
    have p2:=zF1 (l.length+1) lc bc (fun x hx=>hm2 x (hmc x hx))
    rw[hMM]at p2
    exact⟨⟨by simp only;omega,fun r hr=>Nat.le_trans (p1 r hr) (by decide)⟩,by simp only;omega,fun r hr=>Nat.le_trans (p2 r hr) (by decide)⟩
   simp (disch:=omega) [zz,zCV,zz6]
   refine hE _ _ (by simp) ?_
   simp (disch:=omega) [zz,zCV]
   refine qL (zDX _ htp) rfl rfl (by simp) (by simp[qS,TV.er,qK,AV.er,AV.ers,AV.ers_eq,qF,qJ,List.map_map,Function.comp_def]) ?_
   unfold zFW at hX
   by_cases hc:zCW ⟨kd,acc,acc2⟩=0
   ·rw[if_pos hc]at hX
    simp (disch:=omega) [zz,hc]
    simp (disch:=omega) [zz,Tryz.f25,←hX,zDk,qK,qF,qJ,AV.ers_eq,Function.comp_def]
   ·rw[if_neg hc]at hX
    simp (disch:=omega) [zz,hc]
    simp (disch:=omega) [zz,Tryz.f25,←hX,zDk,tr0,qK,qF,qJ,zCZ]
 rw[if_neg hst]at hpm
 have hbf:bw=false:=by cases bw with|false=>rfl|true=>exact absurd (.inr rfl) hst
 subst hbf
 cases lw with
 | nil=>exact absurd (.inl rfl) hst
 | cons s r =>
 simp only[cT]at hpm
 have hpos:(0:Int)<(r.length:Int)+1:=by omega
 have hrm:∀x∈r,x.length≤1000000000:=fun x hx=>hm2 x (hmw x (by simp[hx]))
 have hlr:r.length<f:=by simp at hlw;omega
 have hi2r:i2+(r.length+1)≤l.length:=by simpa using hi2
 have htxt:=zDj B (s::r) false (by simp;omega)
 simp only[cT]at htxt
 have hdg:=zDs B r false (by omega) hrm
 have hds:=zEs r false
 obtain⟨D,hD⟩:∃D,cD r false=D:=⟨_,rfl⟩
 rw[hD]at hdg hds hpm
 obtain⟨d1,d2,d3⟩:=D
 simp only at hdg hds hpm
 cases i2 with
 | zero =>
  obtain rfl:=List.length_eq_zero_iff.1 hacc2
  simp (disch:=omega) [zz,zCV,zz6,hpos,tkR]
  refine jW.of [0,1,2,4,3,5,6,7,8,9,10] [0,1,4] (by kernel_rfl) ?_
  simp (disch:=omega) [zz]
  (repeat with_reducible refine om ?_)
  refine jP (R:=fun r' H'=>r'=.av .str (.s s)∧H'=zCV B r false) rfl (by simp[qQ]) (by simp) ?_ ?_
  ·simpa[TV.er,AV.er,zCV,zz6,AV.ers_eq,AV.erk,AV.erks,AV.erks_eq,Function.comp_def,q8.er_cons,q8.er_nil,HObj.er_var,Tok.k]using htxt
  rintro r' H' ⟨rfl,rfl⟩
  simp (disch:=omega) [zz]
  (repeat with_reducible refine om ?_)
  refine zio (R:=fun r' H'=>r'=.av (qD Tryz.prog 35) (KW d1)∧H'=zCV B d2 d3) (zCV B r false) [] (by simp) rfl (by simp) (by simp) ?_ ?_
  ·simpa[TV.er,AV.er]using hdg
  rintro r' H' ⟨rfl,rfl⟩ _
  refine⟨_,HSub.refl _,?_⟩
  simp (disch:=omega) [zz,wB,zCV]
  (repeat with_reducible refine om ?_)
  refine hNx _ (1,[⟨s,d1⟩],d2,d3,f) ?_ ⟨rfl,by simpa using hpm,by simp only;omega,by simp only;omega,fun y hy=>hmw y (by simp[hds.2 y hy])⟩ (by simp only;omega)
  apply Le.of<;>simp[qU,qG,qO,qH,qP,qK,qF,qI,qJ,qN,tkR,zCV]<;>try omega
  all_goals (intro j;by_cases hj:j=63<;>simp[hj])
 | succ i2 =>
  simp (disch:=omega) [zz,zCV,zz6,hpos,tkR]
  refine jW.of [0,1,2,4,3,5,6,7,8,9,10] [0,1,4] (by kernel_rfl) ?_
  simp (disch:=omega) [zz]
  (repeat with_reducible refine om ?_)
  refine jP (R:=fun r' H'=>r'=.av .str (.s s)∧H'=zCV B r false) rfl (by simp[qQ]) (by simp) ?_ ?_
  ·simpa[TV.er,AV.er,zCV,zz6,AV.ers_eq,AV.erk,AV.erks,AV.erks_eq,Function.comp_def,q8.er_cons,q8.er_nil,HObj.er_var,Tok.k]using htxt
  rintro r' H' ⟨rfl,rfl⟩
  simp (disch:=omega) [zz]
  (repeat with_reducible refine om ?_)
  refine zio (R:=fun r' H'=>r'=.av (qD Tryz.prog 35) (KW d1)∧H'=zCV B d2 d3) (zCV B r false) [] (by simp) rfl (by simp) (by simp) ?_ ?_
  ·simpa[TV.er,AV.er]using hdg
  rintro r' H' ⟨rfl,rfl⟩ _
  refine⟨_,HSub.refl _,?_⟩
  simp (disch:=omega) [zz,wB,zCV,hacc2]
  (repeat with_reducible refine om ?_)
  refine hNx _ (i2+2,acc2++[⟨s,d1⟩],d2,d3,f) ?_ ⟨by simp;omega,by simpa using hpm,by simp only;omega,by simp only;omega,fun y hy=>hmw y (by simp[hds.2 y hy])⟩ (by simp only;omega)
  apply Le.of<;>simp[qU,qG,qO,qH,qP,qK,qF,qI,qJ,qN,tkR,zCV]<;>try omega
  all_goals (intro j;by_cases hj:j=63<;>simp[hj])
def rG:Nat→List (List UInt8)→Option (List Read × List Made)
 | n+1,p::s::r=>if s=[] then(rG n r).map fun x=>(⟨p,false,zero32⟩::x.1,x.2)
   else if s.length=32 then(rG n r).map fun x=>(⟨p,true,s⟩::x.1,x.2) else none
 | 0,p::s::r=>if s.length=32 then(rG 0 r).map fun x=>(x.1,⟨p,s⟩::x.2) else none
 | _,_=>some ([],[])
noncomputable def zF6 (l:List (List UInt8)):zaP × Int :=
 match l with
 | k::c::r=>if r.length % 2=1∨k.length≠32 then(tr0,3) else match zDD c with
  | none=>(tr0,3)
  | some n=>if n<0∨(r.length:Int)<2*n then(tr0,3) else match rG n.toNat r with
   | none=>(tr0,3)
   | some x=>zFW ⟨k,x.1,x.2⟩
 | _=>(tr0,3)
theorem zFZ (l:List (List UInt8)):(cR l true).2.2=true:=by
 unfold cR
 have h:∀l,(cT l true).2.2=true:=fun l=>by cases l<;>rfl
 split
 ·exact h l
 ·simp only[cD,h,Bool.true_or]
theorem zEY:∀(n:Nat) (l:List (List UInt8)),(pR n l true).2.2=true
 | 0,l=>rfl
 | n+1,l=>by simp only[pR,zFZ];exact zEY n _
theorem zE9 (f:Nat) (l:List (List UInt8)):(pM f l true).2=true:=by cases f<;>simp[pM]
theorem zF5:∀(m:Nat) (f:Nat) (l:List (List UInt8)),l.length≤m→l.length<f→
  (l.length % 2=1→(pM f l false).2=true)∧(l.length % 2=0→match rG 0 l with
   | some x=>x.1=[]∧pM f l false=(x.2,false)
   | none=>(pM f l false).2=true)
 | m,f,[],_,hf=>by
  obtain⟨f,rfl⟩:∃g,f=g+1:=⟨f-1,by omega⟩
  exact⟨by simp,fun _=>by simp[rG,pM]⟩
 | m,f,[p],_,hf=>by
  obtain⟨f,rfl⟩:∃g,f=g+1:=⟨f-1,by simp at hf;omega⟩
  refine⟨fun _=>?_,by simp⟩
  simp only[pM,cT,cD,Bool.true_or]
  simp only[List.cons_ne_nil,Bool.false_eq_true,or_self,if_false]
  exact zE9 f []
 | 0,f,p::s::r,hm,hf=>by simp at hm
 | m+1,f,p::s::r,hm,hf=>by
  obtain⟨f,rfl⟩:∃g,f=g+1:=⟨f-1,by simp at hf;omega⟩
  have ih:=zF5 m f r (by simp at hm;omega) (by simp at hf;omega)
  have e:pM (f+1) (p::s::r) false=(⟨p,zDH s⟩::(pM f r (decide (s.length≠32))).1,(pM f r (decide (s.length≠32))).2):=by
   rw[pM,if_neg (by simp)]
   rfl
  rw[e]
  by_cases h32:s.length=32
  ·have hd:decide (s.length≠32)=false:=by simp[h32]
   rw[hd]
   refine⟨fun ho=>ih.1 (by simp at ho;omega),fun he=>?_⟩
   have h2:=ih.2 (by simp at he;omega)
   unfold rG
   rw[if_pos h32]
   cases hg:rG 0 r with
   | none=>rw[hg]at h2;simpa using h2
   | some x =>
    rw[hg]at h2
    simp only[Option.map_some]
    refine⟨h2.1,?_⟩
    rw[h2.2,zDU h32]
  ·have hd:decide (s.length≠32)=true:=by simp[h32]
   rw[hd]
   refine⟨fun _=>zE9 f r,fun he=>?_⟩
   unfold rG
   rw[if_neg h32]
   exact zE9 f r
theorem zF3:∀(n:Nat) (l:List (List UInt8)) (f:Nat),2*n≤l.length→l.length<f→
  (l.length % 2=1→(pM f (pR n l false).2.1 (pR n l false).2.2).2=true)∧(l.length % 2=0→match rG n l with
   | some x=>(pR n l false).1=x.1∧pM f (pR n l false).2.1 (pR n l false).2.2=(x.2,false)
   | none=>(pM f (pR n l false).2.1 (pR n l false).2.2).2=true)
 | 0,l,f,_,hf=>by
  have:=zF5 l.length f l (Nat.le_refl _) hf
  refine⟨this.1,fun he=>?_⟩
  have h2:=this.2 he
  simp only[pR]
  cases hg:rG 0 l with
  | none=>rw[hg]at h2;exact h2
  | some x=>rw[hg]at h2;exact⟨h2.1.symm,h2.2⟩
 | n+1,[],f,h,_=>by simp at h
 | n+1,[p],f,h,_=>by simp at h;omega
 | n+1,p::s::r,f,h,hf=>by
  have ih:=zF3 n r f (by simp at h;omega) (by simp at hf;omega)
  unfold rG
  by_cases hs:s=[]
  ·subst hs
   have hc:cR (p::[]::r) false=(⟨p,false,zero32⟩,r,false):=by simp[cR,cT]
   simp only[pR,hc,if_true]
   refine⟨fun ho=>ih.1 (by simp at ho;omega),fun he=>?_⟩
   have h2:=ih.2 (by simp at he;omega)
   cases hg:rG n r with
   | none=>rw[hg]at h2;exact h2
   | some x=>rw[hg]at h2;simp only[Option.map_some];exact⟨by rw[h2.1],h2.2⟩
  ·have hc:cR (p::s::r) false=(⟨p,true,zDH s⟩,r,decide (s.length≠32)):=by
    unfold cR
    rw[if_neg (by simpa[cT]using hs)]
    rfl
   simp only[pR,hc,if_neg hs]
   by_cases h32:s.length=32
   ·have hd:decide (s.length≠32)=false:=by simp[h32]
    rw[hd,if_pos h32]
    refine⟨fun ho=>ih.1 (by simp at ho;omega),fun he=>?_⟩
    have h2:=ih.2 (by simp at he;omega)
    cases hg:rG n r with
    | none=>rw[hg]at h2;exact h2
    | some x=>rw[hg]at h2;simp only[Option.map_some];exact⟨by rw[h2.1,zDU h32],h2.2⟩
   ·have hd:decide (s.length≠32)=true:=by simp[h32]
    rw[hd,if_neg h32]
    have hb:(pM f (pR n r true).2.1 (pR n r true).2.2).2=true:=by rw[zEY];exact zE9 _ _
    exact⟨fun _=>hb,fun _=>hb⟩
theorem zFV (l:List (List UInt8)):zF4 l=zF6 l:=by
 have bad:∀(n:Nat) (l2:List (List UInt8)) (f:Nat),(pM f (pR n l2 true).2.1 (pR n l2 true).2.2).2=true:=fun n l2 f=>by rw[zEY];exact zE9 _ _
 unfold zF4
 simp only
 cases l with
 | nil =>
  have h1:cD [] false=(zDH [],[],true):=by simp[cD,cT]
  have h2:(cN [] true).2.2=true:=by unfold cN;split<;>(try split)<;>rfl
  rw[h1,h2,if_pos (bad _ _ _)];rfl
 | cons k l =>
  cases l with
  | nil =>
   have h2:∀b,(cN [] b).2.2=true:=fun b=>by unfold cN;split<;>(try split)<;>rfl
   have h1:(cD [k] false).2.1=[]:=rfl
   rw[h1,h2,if_pos (bad _ _ _)];rfl
  | cons c r =>
   have h1:cD (k::c::r) false=(zDH k,c::r,decide (k.length≠32)):=rfl
   rw[h1]
   simp only[zF6]
   by_cases hk:k.length=32
   rotate_left
   ·have hd:decide (k.length≠32)=true:=by simp[hk]
    have h2:(cN (c::r) true).2.2=true:=by unfold cN;split<;>(try split)<;>rfl
    rw[hd,h2,if_pos (bad _ _ _),if_pos (.inr hk)]
   have hd:decide (k.length≠32)=false:=by simp[hk]
   rw[hd,zDU hk]
   cases hi:zDD c with
   | none =>
    have h2:cN (c::r) false=(0,r,true):=by simp only[cN,cT,hi]
    rw[h2,if_pos (bad _ _ _)]
    split<;>rfl
   | some n =>
    by_cases hn:0≤n∧n≤((r.length / 2:Nat):Int)
    rotate_left
    ·have h2:cN (c::r) false=(0,r,true):=by
      simp only[cN,cT,hi]
      exact if_neg hn
     rw[h2,if_pos (bad _ _ _)]
     split
     ·rfl
     ·simp only;rw[if_pos (by omega)]
    have h2:cN (c::r) false=(n,r,false):=by
     simp only[cN,cT,hi]
     exact if_pos hn
    have hsp:=zF3 n.toNat r ((k::c::r).length+1) (by omega) (by simp;omega)
    rw[h2]
    simp only
    by_cases ho:r.length % 2=1
    ·rw[if_pos (hsp.1 ho),if_pos (.inl ho)]
    ·have h3:=hsp.2 (by omega)
     have c1:¬(r.length % 2=1∨k.length≠32):=by omega
     have c2:¬(n<0∨(r.length:Int)<2*n):=by omega
     rw[if_neg c1,if_neg c2]
     cases hg:rG n.toNat r with
     | none=>rw[hg]at h3;simp only at h3;rw[if_pos h3]
     | some x =>
      rw[hg]at h3
      simp only at h3 ⊢
      rw[h3.2,if_neg (by simp),h3.1]
theorem zEo (u:Nat) (x:List UInt8):(Lib.decDigits u).length≤9→zD2 0 0 (Lib.decDigits u++x)=zD2 (Lib.decDigits u).length u x:=by
 induction u using Nat.strongRecOn generalizing x with
 | ind u ih =>
  intro hl
  have key:∀d:Nat,d<10→(UInt8.ofNat (48+d)).toNat=48+d:=fun d hd=>by simp;omega
  have h58:∀d:Nat,d<10→¬UInt8.ofNat (48+d)=58:=fun d hd e=>by
   have:=congrArg UInt8.toNat e
   rw[key d hd]at this
   have h:(58:UInt8).toNat=58:=rfl
   omega
  by_cases h:u<10
  ·have e:Lib.decDigits u=[UInt8.ofNat (48+u)]:=by rw[Lib.decDigits,dif_pos h]
   rw[e]
   show zD2 0 0 (UInt8.ofNat (48+u)::x)=zD2 1 u x
   have h1:=key u h
   rw[zD2,if_neg (by simp),if_neg (by simp only[zDt,h1,Bool.and_eq_false_iff,decide_eq_false_iff_not];omega),h1]
   congr 1;omega
  ·have e:Lib.decDigits u=Lib.decDigits (u / 10)++[UInt8.ofNat (48+u % 10)]:=by rw[Lib.decDigits,dif_neg h]
   have hl2:(Lib.decDigits u).length=(Lib.decDigits (u / 10)).length+1:=by rw[e];simp
   have hpos:0<(Lib.decDigits (u / 10)).length:=List.length_pos_iff.2 (zD6 _)
   have ih1:=ih (u / 10) (by omega) (UInt8.ofNat (48+u % 10)::x) (by omega)
   rw[hl2]
   rw[e,List.append_assoc]
   show zD2 0 0 (Lib.decDigits (u / 10)++(UInt8.ofNat (48+u % 10)::x))=_
   rw[ih1]
   have h1:=key (u % 10) (by omega)
   have h2:=h58 (u % 10) (by omega)
   rw[zD2,if_neg (fun e=>h2 e.1),if_neg (by simp only[zDt,h1,Bool.and_eq_false_iff,decide_eq_false_iff_not];omega),h1]
   congr 1;omega
theorem zGn (u:Nat) (h:u<1000000000):(Lib.decDigits u).length≤9:=by
 have key:∀(k u:Nat),u<10 ^ (k+1)→(Lib.decDigits u).length≤k+1:=by
  intro k
  induction k with
  | zero=>intro u hu;rw[Lib.decDigits,dif_pos (by omega)];simp
  | succ k ih =>
   intro u hu
   rw[Lib.decDigits]
   split
   ·simp
   ·have:=ih (u / 10) (by rw[Nat.pow_succ]at hu;omega)
    simp;omega
 exact key 8 u (by omega)
theorem zFy (s:List UInt8) (x:List UInt8) (h:s.length<1000000000):zD2 0 0 (Lib.itoa s.length++58::(s++x))=.ok s.length (s++x):=by
 rw[zyP,zEo _ _ (zGn _ h)]
 have hpos:0<(Lib.decDigits s.length).length:=List.length_pos_iff.2 (zD6 _)
 rw[zD2,if_pos ⟨rfl,hpos⟩]
theorem zDq:∀(l:List (List UInt8)) (f:Nat) (out:List (List UInt8)),(∀s∈l,s.length<1000000000)→(WI l).length<f→zDb f out (WI l)=(out++l,0)
 | [],f,out,_,hf=>by
  obtain⟨f,rfl⟩:∃g,f=g+1:=⟨f-1,by omega⟩
  simp[zDb,WI]
 | s::l,f,out,hs,hf=>by
  obtain⟨f,rfl⟩:∃g,f=g+1:=⟨f-1,by omega⟩
  have hne:WI (s::l)≠[]:=by rw[zyI];simp
  have hlen:(WI l).length<f:=by rw[zyI]at hf;simp at hf;omega
  unfold zDb
  rw[if_neg hne,zyI,zFy s (WI l) (hs s (by simp))]
  simp only
  rw[if_neg (by simp),List.take_left,List.drop_left,zDq l f _ (fun x hx=>hs x (by simp[hx])) hlen]
  simp
theorem zEp {l:List (List UInt8)} (h:∀s∈l,s.length<1000000000):zD9 (WI l)=(l,0):=by
 have:=zDq l ((WI l).length+1) [] h (by omega)
 simpa[zD9]using this
theorem zEK:∀(l:List Made),(∀m∈l,m.sum.length=32)→rG 0 (l.flatMap zDa)=some ([],l)
 | [],_=>rfl
 | m::l,h=>by
  have ih:=zEK l fun x hx=>h x (by simp[hx])
  have h32:=h m (by simp)
  show rG 0 (m.path::m.sum::l.flatMap zDa)=_
  rw[rG,if_pos h32,ih]
  rfl
theorem zEA:∀(l:List Read) (o:List Made),(∀r∈l,okS r)→(∀m∈o,m.sum.length=32)→rG l.length (l.flatMap zD8++o.flatMap zDa)=some (l,o)
 | [],o,_,ho=>by simpa using zEK o ho
 | r::l,o,h,ho=>by
  have ih:=zEA l o (fun x hx=>h x (by simp[hx])) ho
  obtain⟨h32,hz⟩:=h r (by simp)
  obtain⟨p,is,s⟩:=r
  simp only at h32 hz
  show rG (l.length+1) (p::(if is then s else [])::(l.flatMap zD8++o.flatMap zDa))=_
  cases is with
  | true =>
   have hne:s≠[]:=by intro e;rw[e]at h32;cases h32
   rw[if_pos rfl,rG,if_neg hne,if_pos h32,ih];rfl
  | false =>
   rw[if_neg (by simp),rG,if_pos rfl,ih,hz rfl];rfl
theorem zFM {t:zaP} (hd:TrD t) (hc:zCW t=0):zF6 (zCY t)=(t,0):=by
 have hr:=zEA t.reads t.outs (zEv hd hc) hd.2.2
 obtain⟨h1,h2⟩:=zDf hc
 have hi:zDD (Lib.itoa t.reads.length)=some (t.reads.length:Int):=zFi (by omega) (by omega)
 have hl:(t.reads.flatMap zD8++t.outs.flatMap zDa).length=2*t.reads.length+2*t.outs.length:=by rw[List.length_append,zEn,zEl]
 have hk:=hd.1
 have e:zCY t=t.key::Lib.itoa t.reads.length::(t.reads.flatMap zD8++t.outs.flatMap zDa):=by simp[zCY]
 rw[e]
 simp only[zF6,hi]
 rw[if_neg (by omega),if_neg (by omega),Int.toNat_natCast,hr]
 simp only[zFW]
 rw[if_pos (show zCW ⟨t.key,t.reads,t.outs⟩=0 from hc)]
theorem zE4 {t:zaP} (hd:TrD t) (h:zCW t=0):∀x∈zCY t,x.length≤1040:=by
 obtain⟨h1,h2⟩:=zDf h
 obtain⟨h3,h4⟩:=zDC h
 obtain⟨d1,d2,d3⟩:=hd
 intro x hx
 simp only[zCY,List.mem_append,List.mem_cons,List.mem_flatMap,List.not_mem_nil,or_false]at hx
 rcases hx with((rfl|rfl)|⟨r,hr,hx⟩)|⟨m,hm,hx⟩
 ·omega
 ·have:=zDw t.reads.length
  rw[zyP];omega
 ·have:=zEm (zDh h3 r hr).1
  simp only[zD8,List.mem_cons,List.not_mem_nil,or_false]at hx
  rcases hx with rfl|rfl
  ·exact this
  ·split
   ·have:=d2 r hr;omega
   ·simp
 ·have hu:=zDr h4 m hm
  simp only[zuT,Bool.and_eq_true]at hu
  have:=zEm hu.1
  simp only[zDa,List.mem_cons,List.not_mem_nil,or_false]at hx
  rcases hx with rfl|rfl
  ·exact this
  ·have:=d3 m hm;omega
theorem zF0 {t:zaP} (hd:TrD t) (h:zCW t=0):(WI (zCY t)).length≤1000000000:=by
 obtain⟨h1,h2⟩:=zDf h
 have:=zyW (zE4 hd h)
 have hl:(zCY t).length≤3002:=by
  simp only[zCY,List.length_append,zEn,zEl,List.length_cons,List.length_nil];omega
 have:(2*1040+2)*(zCY t).length≤(2*1040+2)*3002:=Nat.mul_le_mul_left _ hl
 omega
theorem zFH {t:zaP} (hd:TrD t) (hc:zCW t=0):zEz (WI (zCY t))=(t,0):=by
 have h:=zEp (l:=zCY t) fun s hs=>by have:=zE4 hd hc s hs;omega
 unfold zEz
 rw[h,if_pos rfl,zFV,zFM hd hc]
end Go.Proofs.YtcgpcfcbienapaaGreatDoor
end
section
set_option maxRecDepth 100000
namespace Go.Proofs.YtcgpcfcbienapaaGreatDoor
open Go Go.Ab
open Classical
variable [Sel] [SelPow] [SelErr] [SelMax]
theorem zFL {K:Dig} {o:zcy} (h:ofE K o=0):o.kind=1∧zCW (zD7 K o)=0:=by
 unfold ofE at h
 by_cases hk:o.kind=1
 ·rw[if_neg (by simp[hk])]at h;exact⟨hk,h⟩
 ·rw[if_pos hk]at h;cases h
theorem zEx (l:Txt):(sha l).length=32:=zdN _
set_option maxHeartbeats 32000000 in
theorem zEg (a:xW) (ks:List KnV) (ha:vA a≤1000000000) (hk:knW ks≤1000000000) :
  PC Tryz.prog 4 [.av UI (kT a),.av (.slice 33) (zL ks)] (.av .bool (.b true)):=by
 have hkns:(zL ks).er=zL ks:=YO ks
 have hae:=YB a
 have hgr:=d8 a ha
 have hmn:=P1 ks hk
 have hko:=zFB a
 obtain⟨A,hA⟩:∃A,A=kT a:=⟨_,rfl⟩
 rw[←hA]at hgr hae hko ⊢
 unfold PC
 refine q7.sub (R:=fun r H'=>r=.av .bool (.b true)) ?_ (fun r H' hr _=>⟨[],HSub.of_sub (List.nil_sublist _),hr,rfl⟩)
 refine zov Tryz.func4 cf0 fun imm0 w0=>?_
 simp (disch:=omega) [zz]
 refine zcv zFw ?_
 simp (disch:=omega) [zz]
 refine qL hgr rfl rfl (by simp) (by simp[qS,TV.er,hae]) ?_
 by_cases hg:2000<vA a
 ·simp (disch:=omega) [zz,hg,Tryz.f4]
 simp (disch:=omega) [zz,hg]
 refine qL hmn rfl rfl (by simp) (by simp[qS,TV.er,hkns]) ?_
 by_cases hm:5000<knW ks
 ·simp (disch:=omega) [zz,hm,Tryz.f4]
 simp (disch:=omega) [zz,hm]
 have hab:=zbN (a:=a) (by omega)
 obtain⟨hkd,hkl⟩:=zgi (l:=ks) (by omega)
 have hko:=hko (by omega)
 have hnew:=DZ a hab
 unfold zes at hnew
 rw[←hA]at hnew
 cases hcv:j7 a.tool with
 | error en =>
  obtain⟨e,n⟩:=en
  rw[hcv]at hnew
  have hne:¬e=0:=by rcases Z8 hcv with h|h<;>omega
  refine jP (R:=fun r H'=>r=.tup [(.ptr,.nilptr),(.int .i64,.i .i64 e)]∧H'=[]) rfl (by simp[qQ]) (by simp) ?_ ?_
  ·simpa[TV.er,hae,q8.er_nil]using hnew
  rintro r H' ⟨rfl,rfl⟩
  simp (disch:=omega) [zz,hne,Tryz.f4]
 | ok cs =>
 rw[hcv]at hnew
 refine jP (R:=fun r H'=>∃B,r=.tup [(.ptr,.ptr B KD []),(.int .i64,.i .i64 0)]∧jJ B (ZR a.env a.outs (jI a) cs) H') rfl (by simp[qQ]) (by simp) ?_ ?_
 ·simpa[TV.er,hae,q8.er_nil]using hnew
 rintro r H ⟨B,rfl,hH⟩
 obtain⟨g1,g2,g3⟩:=zFa hab hcv hkd
 have htold:=zFf hab (fun p hp=>by have:=zll hp;unfold vA at hg;omega) hcv (zEc hkd) g1 g2
 have hend:=zFl hab hcv hkd
 obtain⟨b',hb'⟩:∃b,b=zEM a cs ks:=⟨_,rfl⟩
 rw[←hb']at g1 g2 htold hend
 simp (disch:=omega) [zz]
 refine AT.loop' (α:=Nat × zCU × List KnV × q8) (fun x=>St.of [(1,.av (.slice 33) (zL ks)),(2,.loc 2 []),(4,.cst (.bool false)),(5,.av .ptr (.ptr B KD [])),(7,.av (.int .i64) (.i .i64 x.1))] [(2,(UI,A))] (fun _=>0) x.2.2.2)
  (fun x=>x.1≤600∧goF (zFd ks) (600-x.1) x.2.1=some b'∧Z4 a.env cs a.outs (jI a) x.2.2.1 x.2.1∧jJ B x.2.1 x.2.2.2) (fun x=>600-x.1) (0,ZR a.env a.outs (jI a) cs,[],H) ?_ ?_ ?_
 ·apply Le.of<;>simp[qU,qG,zX]<;>try omega
 ·exact⟨by omega,g1,g3,hH⟩
 clear hH
 rintro⟨i,b,kn,H⟩ ⟨hi,hgo,hk,hH⟩ KL hN hE
 simp only at hi hgo hk hH hN
 have hi6:i<600:=by
  rcases Nat.lt_or_ge i 600 with h|h
  ·exact h
  ·rw[show 600-i=0 by omega]at hgo;cases hgo
 obtain⟨n,hn⟩:∃n,600-i=n+1:=⟨600-i-1,by omega⟩
 rw[hn,goF]at hgo
 have hi':(i:Int)<600:=by omega
 have hHe:=hH.er
 refine qM (cf:=cf0) laid mixed _ _ _ (by kernel_rfl) ?_
 simp (disch:=omega) [zz,hi']
 refine qE (R:=fun y H'=>y=.tup [(.str,.s (if b.over=true then [] else b.asks)),(.bool,.b (!b.over))]∧jJ B b H') H [] (by simp) rfl (by simp[qQ]) (by simp) ?_ ?_
 ·rw[hHe];simpa[TV.er,AV.er]using zci B hH
 rintro y H1 ⟨rfl,hH1⟩ _
 clear hH hHe
 have hHe1:=hH1.er
 refine⟨H1,by simpa using HSub.refl _,?_⟩
 by_cases hov:b.over=true
 rotate_left
 ·rw[if_neg hov]at hgo
  have hov':b.over=false:=by simpa using hov
  simp only[zFd]at hgo
  have han:=zFe ks (by omega) b.asks
  obtain⟨ha1,ha2⟩:=zEc hkd b.asks _ rfl
  obtain⟨k,hkk⟩:∃k,k=zEq ks b.asks:=⟨_,rfl⟩
  rw[←hkk]at han ha1 ha2 hgo
  obtain⟨hgv,hk3⟩:=hk.give k hov' ha1 (fun _=>ha2)
  have hbg:=dW B hH1 hk.g k (by omega) (by have:=hk.rl;omega) (fun h1 h2 h3=>hk.can k h1 h2 (fun _=>ha2))
  rw[hgv]at hbg
  have hke:(zH k).er=zH k:=(vU k).1
  simp (disch:=omega) [zz,hov']
  refine qL han rfl rfl (by simp) (by simp[qS,TV.er,AV.er,hkns]) ?_
  simp (disch:=omega) [zz]
  refine qE (R:=fun y H'=>y=.av (.int .i64) (.i .i64 0)∧jJ B (kB k b).2 H') H1 [] (by simp) rfl (by simp[qQ]) (by simp) ?_ ?_
  ·rw[hHe1]
   simpa[TV.er,AV.er,hke]using hbg
  rintro y H4 ⟨rfl,hH4⟩ _
  refine⟨H4,by simpa using HSub.refl _,?_⟩
  simp (disch:=omega) [zz]
  refine hN _ (i+1,(kB k b).2,kn++[k],H4) ?_ ⟨by simp only;omega,by simp only;rw[show 600-(i+1)=n by omega];exact hgo,hk3,hH4⟩ (by simp only;omega)
  apply Le.of<;>simp[qU,qG,zX]<;>try omega
 rw[if_pos hov]at hgo
 have hbb:b=b':=Option.some.inj hgo
 subst hbb
 clear hN hgo
 simp (disch:=omega) [zz,hov]
 refine hE _ _ (by simp) ?_
 clear hE KL
 simp (disch:=omega) [zz]
 refine qE (R:=fun y H'=>y=.tup [(qD Tryz.prog 41,zI (yD b).1),(.bool,.b (yD b).2)]∧jJ B b H') H1 [] (by simp) rfl (by simp[qQ]) (by simp) ?_ ?_
 ·rw[hHe1];simpa[TV.er,AV.er]using QN B hH1 (by have:=hk.rl;omega) (hk.wl hab.bo)
 rintro y H2 ⟨rfl,hH2⟩ _
 refine⟨H2,by simpa using HSub.refl _,?_⟩
 have h2:=uJ hov
 rw[h2]
 obtain⟨o,ho⟩:∃o,o=(yD b).1:=⟨_,rfl⟩
 rw[←ho]at htold hend ⊢
 have hoe:=KO o
 by_cases hk1:o.kind=1
 rotate_left
 ·simp (disch:=omega) [zz,hk1,zI,Tryz.f4]
 obtain⟨hfr,hri⟩:=hend hk1
 obtain⟨ht,hr5,hrp,ho1,hop⟩:=htold
 have hao:zFX o:=⟨by omega,ho1,fun r hr=>Nat.le_trans (hrp r hr) (by decide),fun f hf=>⟨(hop f hf).1,Nat.le_trans (hop f hf).2 (by decide)⟩⟩
 obtain⟨K,hK⟩:∃K,K=sha (zz5 a):=⟨_,rfl⟩
 rw[←hK]at hko
 have hof:=zGq K o hao
 obtain⟨T,hT⟩:∃T,T=ofT K o:=⟨_,rfl⟩
 obtain⟨f,hf⟩:∃f,f=ofE K o:=⟨_,rfl⟩
 have htv:zES K o=.tup [(qD Tryz.prog 46,qK T),(.int .i64,.i .i64 f)]:=by rw[hT,hf];rfl
 rw[htv]at hof
 have hoee:zI o=.agg [.i .i64 1,.i .i64 o.why,zU o.outs,qF o.reads]:=by unfold zI;rw[hk1]
 rw[hoee]at hof hoe ⊢
 simp (disch:=omega) [zz]
 (repeat with_reducible refine om ?_)
 refine jC hko rfl rfl (by simp) (by simp[qS,coC,TV.er,AV.er,hae]) ?_
 simp (disch:=omega) [zz]
 (repeat with_reducible refine om ?_)
 refine jC hof rfl rfl (by simp) (by simp[qS,coC,TV.er,hoe]) ?_
 by_cases hf0:f=0
 rotate_left
 ·-- why there is none
  have helse:1000<o.outs.length∨∃g∈o.outs,zuT g.path zwB=false:=by
   refine Classical.byContradiction fun hno=>hf0 ?_
   have hc:zCW (zD7 K o)=0:=zEQ hr5 hfr hri (fun h=>hno (.inl h)) (fun g hg=>by
    cases e:zuT g.path zwB with
    | true=>rfl
    | false=>exact absurd (.inr ⟨g,hg,e⟩) hno)
   rw[hf,ofE,if_neg (by simp[hk1]),hc]
  obtain⟨EL,hEL⟩:∃e:Nat→Bool,e=fun i=>decide (1000<o.outs.length)||(o.outs.take i).any fun g=>!zuT g.path zwB:=⟨_,rfl⟩
  have hE0:EL 0=decide (1000<o.outs.length):=by simp[hEL]
  have hEs:∀i (h:i<o.outs.length),EL (i+1)=(EL i||!zuT o.outs[i].path zwB):=fun i h=>by
   simp only[hEL]
   rw[List.take_succ_eq_append_getElem h,List.any_append]
   simp[Bool.or_assoc]
  have hEn:EL o.outs.length=true:=by
   simp only[hEL,List.take_length]
   rcases helse with h|⟨g,hg,e⟩
   ·simp[h]
   ·have:(o.outs.any fun g=>!zuT g.path zwB)=true:=List.any_eq_true.2 ⟨g,hg,by simp[e]⟩
    simp[this]
  have hI:(decide (1000<(o.outs.length:Int)))=EL 0:=by rw[hE0];congr 1;exact propext ⟨fun h=>by omega,fun h=>by omega⟩
  clear hEL
  simp (disch:=omega) [zz,hf0,zU]
  (repeat with_reducible refine om ?_)
  refine AT.loop' (α:=Nat) (fun j=>St.of [(4,.cst (.bool false)),(10,.loc 10 []),(14,.av .bool (.b (EL j))),(15,.av (.int .i64) (.i .i64 j))] [(10,(qD Tryz.prog 41,.agg [.i .i64 1,.i .i64 o.why,zU o.outs,qF o.reads]))] (fun _=>0) H2)
   (fun j=>j≤o.outs.length) (fun j=>o.outs.length-j) 0 ?_ ?_ ?_
  ·apply Le.of<;>simp[qU,qG,zX,zU,←hI]<;>try omega
  ·omega
  rintro j hj KL hN hE
  refine qM (cf:=cf0) laid mixed _ _ _ (by kernel_rfl) ?_
  by_cases hjl:j<o.outs.length
  ·have hjl':(j:Int)<o.outs.length:=by omega
   have hgj:=KB jZ o.outs j hjl
   have hpj:=(hop _ (List.getElem_mem hjl)).1
   have hs:=hEs j hjl
   obtain⟨x,hx⟩:∃x,x=o.outs[j]:=⟨_,rfl⟩
   rw[←hx]at hgj hpj hs
   cases he:EL j with
   | true =>
    rw[he,Bool.true_or]at hs
    simp (disch:=omega) [zz,hjl',hjl,zU,he]
    refine hN _ (j+1) ?_ (by omega) (by omega)
    apply Le.of<;>simp[qU,qG,zX,zU,hs]<;>try omega
   | false =>
    rw[he,Bool.false_or]at hs
    simp (disch:=omega) [zz,hjl',hjl,zU,hgj,jZ,he]
    refine qL (zE6 x.path zwB (by omega) (by decide)) rfl rfl (by simp) (by simp[qS,TV.er,AV.er,coC,zwB]) ?_
    cases hu:zuT x.path zwB with
    | true =>
     rw[hu]at hs
     simp (disch:=omega) [zz]
     refine hN _ (j+1) ?_ (by omega) (by omega)
     apply Le.of<;>simp[qU,qG,zX,zU,hs]<;>try omega
    | false =>
     rw[hu]at hs
     simp (disch:=omega) [zz]
     refine hN _ (j+1) ?_ (by omega) (by omega)
     apply Le.of<;>simp[qU,qG,zX,zU,hs]<;>try omega
  have hjl':¬(j:Int)<o.outs.length:=by omega
  have hjn:j=o.outs.length:=by omega
  subst hjn
  rw[hEn]
  simp (disch:=omega) [zz,hjl',zU]
  refine hE _ _ (by simp) ?_
  simp (disch:=omega) [zz,Tryz.f4]
 rw[hf0]at hf
 obtain⟨_,hc⟩:=zFL hf.symm
 have hTr:T=zD7 K o:=by rw[hT,ofT,if_neg (by simp[hk1]),if_pos hc]
 have hTR:T.reads=o.reads:=by rw[hTr];rfl
 have hTk:T.key=K:=by rw[hTr];rfl
 have hcT:zCW T=0:=by rw[hTr];exact hc
 have hnd:=hfr.2
 have hTD:TrD T:=by
  rw[hTr]
  refine⟨by rw[show (zD7 K o).key=K from rfl,hK];exact zEx _,fun r hr=>?_,fun m hm=>?_⟩
  ·obtain⟨k,_,e⟩:=ht r hr
   rw[←e]
   show (if k.is=true then sha k.data else zero32).length=32
   split
   ·exact zEx _
   ·exact zDv
  ·obtain⟨g,_,rfl⟩:=List.mem_map.1 hm
   exact zEx _
 have hTP:TrP T:=by
  rw[hTr]
  refine⟨⟨by simp only[zD7];omega,fun r hr=>Nat.le_trans (hrp r hr) (by decide)⟩,by simp only[zD7,List.length_map];omega,fun r hr=>?_⟩
  obtain⟨g,hg,rfl⟩:=List.mem_map.1 hr
  exact Nat.le_trans (hop g hg).1 (by decide)
 have hTO:zG2 T:=⟨hTP.1.1,hTP.2.1⟩
 have hbl:=zF0 hTD hcT
 have hby:=zEC T hTP hTD (fun _=>by omega)
 have hrd:=zFN (WI (zCY T)) hbl
 rw[zFH hTD hcT]at hrd
 have hsm:=zFS T T hTO hTO
 rw[show zDY T T=true from zFc.2 rfl]at hsm
 rw[show zDc T=.tup [(.str,.s (WI (zCY T))),(.int .i64,.i .i64 0)] by unfold zDc;rw[if_pos hcT]]at hby
 have hte:=zd4 T
 have hree:∀l:List Read,(qF l).er=qF l:=zdY
 have hhold:=fun l hl=>zEI T l hl (by rw[hTR];omega)
 rw[hTR]at hhold
 have hha:=hhold o.reads (by omega)
 rw[zFj hnd]at hha
 obtain⟨RB,hRB⟩:∃r,r=WI (zCY T):=⟨_,rfl⟩
 rw[←hRB]at hby hrd
 have hTe:qK T=.agg [KW K,qF o.reads,qJ T.outs]:=by unfold qK;rw[hTk,hTR]
 simp (disch:=omega) [zz,hf0]
 (repeat with_reducible refine om ?_)
 refine qL hha rfl rfl (by simp) (by simp[qS,TV.er,AV.er,hte,hree]) ?_
 simp (disch:=omega) [zz,zDd,hTe]
 (repeat with_reducible refine om ?_)
 refine jC hko rfl rfl (by simp) (by simp[qS,coC,TV.er,AV.er,hae]) ?_
 simp (disch:=omega) [zz,ziF,qF]
 (repeat with_reducible refine om ?_)
 refine AT.loop' (α:=Nat) (fun j=>St.of [(4,.cst (.bool false)),(10,.loc 10 []),(12,.loc 12 []),(18,.av (.int .i64) (.i .i64 j))] [(10,(qD Tryz.prog 41,.agg [.i .i64 1,.i .i64 o.why,zU o.outs,qF o.reads])),(12,(qD Tryz.prog 46,qK T))] (fun _=>0) H2)
  (fun j=>j≤o.reads.length) (fun j=>o.reads.length-j) 0 ?_ ?_ ?_
 ·apply Le.of<;>simp[qU,qG,zX,qF,hTe]<;>try omega
 ·omega
 rintro j hj KL hN hE
 refine qM (cf:=cf0) laid mixed _ _ _ (by kernel_rfl) ?_
 by_cases hjl:j<o.reads.length
 ·have hjl':(j:Int)<o.reads.length:=by omega
  have hgj:=KB qI o.reads j hjl
  have hh:=hhold (o.reads.take j) (by rw[List.length_take];omega)
  rw[zFu hnd hjl]at hh
  obtain⟨r,hr⟩:∃r,r=o.reads[j]:=⟨_,rfl⟩
  rw[←hr]at hgj hh
  simp (disch:=omega) [zz,hjl',hjl,qF,hgj,←hr]
  (repeat with_reducible refine om ?_)
  refine jC hh rfl rfl (by simp) (by simp[qS,coC,TV.er,AV.er,hte,hree,qF,AV.ers_eq,Function.comp_def]) ?_
  simp (disch:=omega) [zz,zDd,hgj,qI,←hr]
  (repeat with_reducible refine om ?_)
  refine hN _ (j+1) ?_ (by omega) (by omega)
  apply Le.of<;>simp[qU,qG,zX,qF,hTe]<;>try omega
 have hjl':¬(j:Int)<o.reads.length:=by omega
 simp (disch:=omega) [zz,hjl',qF]
 refine hE _ _ (by simp) ?_
 clear hN hE
 simp (disch:=omega) [zz]
 refine qL hby rfl rfl (by simp) (by simp[qS,TV.er,AV.er,hte]) ?_
 simp (disch:=omega) [zz]
 refine zcv hrd ?_
 simp (disch:=omega) [zz,zDk]
 refine qL hsm rfl rfl (by simp) (by simp[qS,TV.er,AV.er,hte]) ?_
 simp (disch:=omega) [zz,Tryz.f4]
end Go.Proofs.YtcgpcfcbienapaaGreatDoor
end
