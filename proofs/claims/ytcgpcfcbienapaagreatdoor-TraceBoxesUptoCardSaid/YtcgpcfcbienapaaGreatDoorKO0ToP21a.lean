/- An action's key. No condition beyond each theorem's own. -/
import Derived.Test.YtcgpcfcbienapaaGreatDoorFK0ToFK4
import Derived.Test.YtcgpcfcbienapaaGreatDoorBR0ToS8
import Derived.Test.YtcgpcfcbienapaaGreatDoorL0
import Derived.Test.YtcgpcfcbienapaaGreatDoorK11ToGB3
import Derived.Test.YtcgpcfcbienapaaGreatDoorK20ToBX1
import Derived.Test.YtcgpcfcbienapaaGreatDoorP18ToKBs
import Derived.Test.YtcgpcfcbienapaaGreatDoorBE1aToAN0
set_option linter.unusedSimpArgs false
set_option linter.unusedVariables false
set_option linter.unusedSectionVars false
section
set_option maxRecDepth 100000
namespace Go.Proofs.YtcgpcfcbienapaaGreatDoor
open Go Go.Ab
open Classical
variable [Sel] [SelPow] [SelMax]
@[simp] theorem znN:qZ Tryz.prog 21=true:=by kernel_rfl
@[simp] theorem zs8:z8 Tryz.prog (.func 21)=false:=q9 znN
theorem zFP {a:xW} (ha:vA a≤2000):(zz5 a).length≤100000000:=by
 obtain⟨l1,l2,l3,l4⟩:=zzC ha
 have:=zDl (N:=10000000) (by decide) [a.tool,WI (zyK a.env),WI (zyE a.ins),WI (zyE a.asks),WI (zyE a.outs)] fun x hx=>by
  have:=(zbN ha).bt
  simp only[List.mem_cons,List.not_mem_nil,or_false]at hx
  rcases hx with rfl|rfl|rfl|rfl|rfl<;>omega
 simp only[List.length_cons,List.length_nil]at this
 unfold zz5
 omega
theorem zFB (a:xW) (ha:vA a≤2000):PC Tryz.prog 21 [.av UI (kT a)] (.av (qD Tryz.prog 35) (KW (sha (zz5 a)))):=by
 have hae:=YB a
 have ht:=zzq a ha
 have hl:=zFP ha
 obtain⟨A,hA⟩:∃A,A=kT a:=⟨_,rfl⟩
 rw[←hA]at hae ht ⊢
 refine zow Tryz.func21 cf0 fun imm0 w0=>?_
 simp (disch:=omega) [zz]
 refine qL ht rfl rfl (by simp) (by simp[qS,TV.er,hae]) ?_
 simp (disch:=omega) [zz]
 refine qL (znJ (zz5 a) (by omega)) rfl rfl (by simp) (by simp[qS,TV.er,AV.er,AV.ers,zfI]) ?_
 simp (disch:=omega) [zz,Tryz.f21]
end Go.Proofs.YtcgpcfcbienapaaGreatDoor
end
section
set_option maxRecDepth 100000
namespace Go.Proofs.YtcgpcfcbienapaaGreatDoor
open Go Go.Ab
open Classical
variable [Sel]
@[simp] theorem zwW:qZ Tryz.prog 32=true:=by kernel_rfl
@[simp] theorem zxv:z8 Tryz.prog (.func 32)=false:=q9 zwW
@[simp] theorem zyo:qZ Tryz.prog 47=true:=by kernel_rfl
@[simp] theorem zyy:z8 Tryz.prog (.func 47)=false:=q9 zyo
@[simp] theorem znT:qZ Tryz.prog 23=true:=by kernel_rfl
@[simp] theorem zru:z8 Tryz.prog (.func 23)=false:=q9 znT
theorem zFh (k r:Read) (b:Nat):q7 Tryz.prog 47 [.av (qD Tryz.prog 54) (qI k),.av .ptr (.ptr b (qD Tryz.prog 54) [])] [(b,.var (qD Tryz.prog 54) (qI r))]
  fun r' H'=>r'=.av .bool (.b (decide (k.path=r.path)))∧H'=[(b,.var (qD Tryz.prog 54) (qI r))]:=by
 refine zov Tryz.func47 cf0 fun imm0 w0=>?_
 simp (disch:=omega) [zz,qI,Tryz.f47]
theorem zET (known:List Read) (hk:known.length≤9223372036854775807) (r:Read) (b:Nat) :
  q7 Tryz.prog 32 [.av (.slice 54) (qF known),.av .func (.fn 47 [.ptr b (qD Tryz.prog 54) []])] [(b,.var (qD Tryz.prog 54) (qI r))]
   fun r' H'=>r'=.av (.int .i64) (.i .i64 (J7 (fun x=>decide (x.path=r.path)) known))∧H'=[(b,.var (qD Tryz.prog 54) (qI r))]:=by
 refine zov Tryz.func32 cf0 fun imm0 w0=>?_
 simp (disch:=omega) [zz,qF]
 refine AT.loop' (α:=Nat) (fun k=>St.of [(0,.av (.slice 54) (.sl .no (known.map qI))),(1,.av .func (.fn 47 [.ptr b (qD Tryz.prog 54) []])),(7,.av (.int .i64) (.i .i64 known.length)),(8,.av (.int .i64) (.i .i64 k))] [] (fun _=>0) [(b,.var (qD Tryz.prog 54) (qI r))])
  (fun k=>k≤known.length∧∀x∈known.take k,decide (x.path=r.path)=false) (fun k=>known.length-k) 0 ?_ ?_ ?_
 ·apply Le.of<;>simp[qU,qG,qO,qH,qP,qK,qF,qI,qJ,qN,zX]<;>try omega
 ·simp
 rintro k ⟨hk',hpk⟩ KL hN hE
 refine qM (cf:=cf0) laid mixed _ _ _ (by kernel_rfl) ?_
 by_cases hlt:k<known.length
 ·have hlt':(k:Int)<known.length:=by omega
  simp (disch:=omega) [zz,hlt']
  refine jP (R:=fun r' H'=>r'=.av .bool (.b (decide (known[k].path=r.path)))∧H'=[(b,.var (qD Tryz.prog 54) (qI r))]) rfl (by simp[qQ]) (by simp) ?_ ?_
  ·have:=zFh known[k] r b
   simpa[TV.er,AV.er,qF,List.getElem?_eq_getElem hlt,q8.er_cons,q8.er_nil,HObj.er]using this
  rintro r' H' ⟨rfl,rfl⟩
  by_cases hp:known[k].path=r.path
  ·simp (disch:=omega) [zz,hp]
   refine hE _ _ (by simp) ?_
   simp (disch:=omega) [zz,Tryz.f32,uL hlt hpk (by simpa using hp)]
  ·simp (disch:=omega) [zz,hp]
   refine hN _ (k+1) ?_ ⟨by omega,by rw[Z2 hlt];exact⟨hpk,by simpa using hp⟩⟩ (by omega)
   apply Le.of<;>simp[qU,qG,qO,qH,qP,qK,qF,qI,qJ,qN,zX]<;>try omega
 ·have hlt':¬(k:Int)<known.length:=by omega
  simp (disch:=omega) [zz,hlt']
  refine hE _ _ (by simp) ?_
  rw[List.take_of_length_le (by omega)]at hpk
  simp (disch:=omega) [zz,Tryz.f32,x9 hpk]
def zD0 (known:List Read):List Read→Bool × List UInt8
 | []=>(true,[])
 | r::rs=>match known.find? (fun x=>decide (x.path=r.path))with
  | none=>(false,r.path)
  | some x=>if x=r then zD0 known rs else(false,[])
def zDd (p:Bool × List UInt8):TV:=.tup [(.bool,.b p.1),(.str,.s p.2)]
abbrev zF9:Cfg:=⟨fun k=>k==7,fun _=>false⟩
set_option maxHeartbeats 4000000 in
theorem zEI (t:zaP) (known:List Read) (hk:known.length≤9223372036854775807) (ht:t.reads.length≤9223372036854775807) :
  PC Tryz.prog 23 [.av (qD Tryz.prog 46) (qK t),.av (.slice 54) (qF known)] (zDd (zD0 known t.reads)):=by
 refine zow Tryz.func23 zF9 fun imm0 w0=>?_
 simp (disch:=omega) [zz,qK,qF]
 refine AT.loop' (α:=Nat) (fun k=>St.of [(1,.av (.slice 54) (qF known)),(10,.av (.slice 54) (qF t.reads)),(11,.av (.int .i64) (.i .i64 t.reads.length)),(12,.av (.int .i64) (.i .i64 k))] [] (fun _=>0) [])
  (fun k=>k≤t.reads.length∧zD0 known t.reads=zD0 known (t.reads.drop k)) (fun k=>t.reads.length-k) 0 ?_ ?_ ?_
 ·apply Le.of<;>simp[qU,qG,qO,qH,qP,qK,qF,qI,qJ,qN,qF]<;>try omega
 ·simp
 rintro k ⟨hk',hpk⟩ KL hN hE
 refine qM (cf:=zF9) laid mixed _ _ _ (by kernel_rfl) ?_
 by_cases hlt:k<t.reads.length
 ·have hlt':(k:Int)<t.reads.length:=by omega
  have hdr:t.reads.drop k=t.reads[k]::t.reads.drop (k+1):=(List.getElem_cons_drop hlt).symm
  obtain⟨r,hr⟩:∃r,r=t.reads[k]:=⟨_,rfl⟩
  have hg:(t.reads.map qI)[k]?=some (qI r):=by rw[List.getElem?_map,List.getElem?_eq_getElem hlt,hr];rfl
  rw[←hr]at hdr
  simp (disch:=omega) [zz,hlt',qF,hg,←hr]
  intro b
  have hcall:=zET known hk r b
  simp only[zGu]at hcall
  refine jP (R:=fun r' H'=>r'=.av (.int .i64) (.i .i64 (J7 (fun x=>decide (x.path=r.path)) known))∧H'=[(b,.var (.struct [9,4,35]) (qI r))]) rfl (by simp[qQ]) (by simp) ?_ ?_
  ·simpa[TV.er,AV.er,AV.ers,AV.ers_eq,qF,q8.er_cons,q8.er_nil,HObj.er,Function.comp_def]using hcall
  rintro r' H' ⟨rfl,rfl⟩
  rcases ze8 (fun x:Read=>decide (x.path=r.path)) known with⟨hi,hf⟩|⟨i,hil,hi,hf⟩
  ·simp (disch:=omega) [zz,hi,qI]
   refine hE _ _ (by simp) ?_
   have:zD0 known t.reads=(false,r.path):=by rw[hpk,hdr];simp only[zD0,hf]
   simp (disch:=omega) [zz,Tryz.f23,zDd,this]
  ·have hi0:¬(i:Int)<0:=by omega
   have hgi:(known.map qI)[i]?=some (qI known[i]):=by rw[List.getElem?_map,List.getElem?_eq_getElem hil];rfl
   have hst:zD0 known t.reads=if known[i]=r then zD0 known (t.reads.drop (k+1)) else(false,[]):=by rw[hpk,hdr];simp only[zD0,hf]
   have hil':(i:Int)<known.length:=by omega
   by_cases hkr:known[i]=r
   ·rw[if_pos hkr]at hst
    simp (disch:=omega) [zz,hi,hi0,hgi,hil',hkr,GV]
    (repeat with_reducible refine om ?_)
    refine hN _ (k+1) ?_ ⟨by omega,hst⟩ (by omega)
    apply Le.of<;>simp[qU,qG,qO,qH,qP,qK,qF,qI,qJ,qN,qF]<;>try omega
   ·rw[if_neg hkr]at hst
    simp (disch:=omega) [zz,hi,hi0,hgi,hil',hkr,GV]
    (repeat with_reducible refine om ?_)
    refine hE _ _ (by simp) ?_
    simp (disch:=omega) [zz,Tryz.f23,zDd,hst]
 ·have hlt':¬(k:Int)<t.reads.length:=by omega
  simp (disch:=omega) [zz,hlt']
  refine hE _ _ (by simp) ?_
  rw[List.drop_of_length_le (by omega)]at hpk
  simp (disch:=omega) [zz,Tryz.f23,zDd,hpk,zD0]
@[simp] theorem znt:qZ Tryz.prog 56=true:=by kernel_rfl
@[simp] theorem zrk:z8 Tryz.prog (.func 56)=false:=q9 znt
@[simp] theorem znU:qZ Tryz.prog 57=true:=by kernel_rfl
@[simp] theorem zrA:z8 Tryz.prog (.func 57)=false:=q9 znU
@[simp] theorem zns:qZ Tryz.prog 26=true:=by kernel_rfl
@[simp] theorem zsf:z8 Tryz.prog (.func 26)=false:=q9 zns
set_option maxHeartbeats 4000000 in
theorem zEN (a b:List Read) (ha:a.length≤9223372036854775807) (hb:b.length≤9223372036854775807) :
  PC Tryz.prog 56 [.av (.slice 54) (qF a),.av (.slice 54) (qF b)] (.av .bool (.b (decide (a=b)))):=by
 refine zow Tryz.func56 cf0 fun imm0 w0=>?_
 by_cases hab:a.length=b.length
 rotate_left
 ·have h1:¬(a.length:Int)=b.length:=by omega
  have h2:¬a=b:=fun e=>hab (by rw[e])
  simp (disch:=omega) [zz,h1,qF,Tryz.f56,h2]
 have h1:(a.length:Int)=b.length:=by omega
 simp (disch:=omega) [zz,h1,qF]
 refine AT.loop' (α:=Nat) (fun k=>St.of [(0,.av (.slice 54) (qF a)),(1,.av (.slice 54) (qF b)),(12,.av (.int .i64) (.i .i64 b.length)),(13,.av (.int .i64) (.i .i64 k))] [] (fun _=>0) [])
  (fun k=>k≤b.length∧∀i,i<k→∀(h1:i<a.length) (h2:i<b.length),a[i]=b[i]) (fun k=>b.length-k) 0 ?_ ?_ ?_
 ·apply Le.of<;>simp[qU,qG,qO,qH,qP,qK,qF,qI,qJ,qN,qF]<;>try omega
 ·exact⟨by omega,fun i h=>by omega⟩
 rintro k ⟨hk,hall⟩ KL hN hE
 refine qM (cf:=cf0) laid mixed _ _ _ (by kernel_rfl) ?_
 by_cases hlt:k<b.length
 ·have hlt':(k:Int)<b.length:=by omega
  have hga:=KB qI a k (by omega)
  have hgb:=KB qI b k hlt
  have hlta:(k:Int)<a.length:=by omega
  by_cases hc:a[k]=b[k]
  ·simp (disch:=omega) [zz,hlt',hlta,hga,hgb,qF,GV,hc]
   (repeat with_reducible refine om ?_)
   refine hN _ (k+1) ?_ ⟨by omega,fun i hi h1 h2=>?_⟩ (by omega)
   ·apply Le.of<;>simp[qU,qG,qO,qH,qP,qK,qF,qI,qJ,qN,qF]<;>try omega
   ·rcases Nat.lt_or_ge i k with h|h
    ·exact hall i h h1 h2
    ·have:i=k:=by omega
     subst this;exact hc
  ·have hne:¬a=b:=fun e=>hc (by subst e;rfl)
   simp (disch:=omega) [zz,hlt',hlta,hga,hgb,qF,GV,hc]
   (repeat with_reducible refine om ?_)
   refine hE _ _ (by simp) ?_
   simp (disch:=omega) [zz,Tryz.f56,hne]
 ·have hlt':¬(k:Int)<b.length:=by omega
  simp (disch:=omega) [zz,hlt',qF]
  refine hE _ _ (by simp) ?_
  have:a=b:=C0 hab fun i h1 h2=>hall i (by omega) h1 h2
  simp (disch:=omega) [zz,Tryz.f56,this]
set_option maxHeartbeats 4000000 in
theorem zEZ (a b:List Made) (ha:a.length≤9223372036854775807) (hb:b.length≤9223372036854775807) :
  PC Tryz.prog 57 [.av (.slice 80) (qJ a),.av (.slice 80) (qJ b)] (.av .bool (.b (decide (a=b)))):=by
 refine zow Tryz.func57 cf0 fun imm0 w0=>?_
 by_cases hab:a.length=b.length
 rotate_left
 ·have h1:¬(a.length:Int)=b.length:=by omega
  have h2:¬a=b:=fun e=>hab (by rw[e])
  simp (disch:=omega) [zz,h1,qJ,Tryz.f57,h2]
 have h1:(a.length:Int)=b.length:=by omega
 simp (disch:=omega) [zz,h1,qJ]
 refine AT.loop' (α:=Nat) (fun k=>St.of [(0,.av (.slice 80) (qJ a)),(1,.av (.slice 80) (qJ b)),(12,.av (.int .i64) (.i .i64 b.length)),(13,.av (.int .i64) (.i .i64 k))] [] (fun _=>0) [])
  (fun k=>k≤b.length∧∀i,i<k→∀(h1:i<a.length) (h2:i<b.length),a[i]=b[i]) (fun k=>b.length-k) 0 ?_ ?_ ?_
 ·apply Le.of<;>simp[qU,qG,qO,qH,qP,qK,qF,qI,qJ,qN,qJ]<;>try omega
 ·exact⟨by omega,fun i h=>by omega⟩
 rintro k ⟨hk,hall⟩ KL hN hE
 refine qM (cf:=cf0) laid mixed _ _ _ (by kernel_rfl) ?_
 by_cases hlt:k<b.length
 ·have hlt':(k:Int)<b.length:=by omega
  have hga:=KB qN a k (by omega)
  have hgb:=KB qN b k hlt
  have hlta:(k:Int)<a.length:=by omega
  by_cases hc:a[k]=b[k]
  ·simp (disch:=omega) [zz,hlt',hlta,hga,hgb,qJ,zDP,hc]
   (repeat with_reducible refine om ?_)
   refine hN _ (k+1) ?_ ⟨by omega,fun i hi h1 h2=>?_⟩ (by omega)
   ·apply Le.of<;>simp[qU,qG,qO,qH,qP,qK,qF,qI,qJ,qN,qJ]<;>try omega
   ·rcases Nat.lt_or_ge i k with h|h
    ·exact hall i h h1 h2
    ·have:i=k:=by omega
     subst this;exact hc
  ·have hne:¬a=b:=fun e=>hc (by subst e;rfl)
   simp (disch:=omega) [zz,hlt',hlta,hga,hgb,qJ,zDP,hc]
   (repeat with_reducible refine om ?_)
   refine hE _ _ (by simp) ?_
   simp (disch:=omega) [zz,Tryz.f57,hne]
 ·have hlt':¬(k:Int)<b.length:=by omega
  simp (disch:=omega) [zz,hlt',qJ]
  refine hE _ _ (by simp) ?_
  have:a=b:=C0 hab fun i h1 h2=>hall i (by omega) h1 h2
  simp (disch:=omega) [zz,Tryz.f57,this]
def zG2 (t:zaP):Prop:=t.reads.length≤9223372036854775807∧t.outs.length≤9223372036854775807
def zDY (a b:zaP):Bool:=decide (a.key=b.key∧a.reads=b.reads∧a.outs=b.outs)
theorem zFc {a b:zaP}:zDY a b=true↔a=b:=by cases a;cases b;simp[zDY]
set_option maxHeartbeats 4000000 in
theorem zFS (a b:zaP) (ha:zG2 a) (hb:zG2 b):PC Tryz.prog 26 [.av (qD Tryz.prog 46) (qK a),.av (qD Tryz.prog 46) (qK b)] (.av .bool (.b (zDY a b))):=by
 refine zow Tryz.func26 cf0 fun imm0 w0=>?_
 by_cases h1:a.key=b.key
 ·simp (disch:=omega) [zz,qK,KW,zDL,h1]
  refine qL (zEN a.reads b.reads ha.1 hb.1) rfl rfl (by simp) (by simp[qS,TV.er]) ?_
  by_cases h2:a.reads=b.reads
  ·simp (disch:=omega) [zz,h2,qK]
   refine qL (zEZ a.outs b.outs ha.2 hb.2) rfl rfl (by simp) (by simp[qS,TV.er]) ?_
   simp (disch:=omega) [zz,h2,Tryz.f26,zDY,h1]
  ·simp (disch:=omega) [zz,h2,Tryz.f26,zDY,h1]
 ·simp (disch:=omega) [zz,qK,KW,zDL,h1,Tryz.f26,zDY]
end Go.Proofs.YtcgpcfcbienapaaGreatDoor
end
section
set_option maxRecDepth 100000
namespace Go.Proofs.YtcgpcfcbienapaaGreatDoor
open Go Go.Ab
open Classical
variable [Sel] [SelPow]
theorem zFs {P:Program} {g g':Gh} {w:World} {b m:Nat} {e:TypeId} {ys:List AV} (hf:∀d x v,VV P g w d x v→VV P g' w d (fzA b m e ys x) v):∀ {xs:List TV} {vs:List Value},ARs P g w xs vs→ARs P g' w (xs.map (zho b m e ys)) vs
 | [],[],_=>trivial
 | x::xs,v::vs,h=>by
  refine⟨?_,zFs hf h.2⟩
  have h1:=h.1
  cases x with
  | av d x=>exact hf d x v h1
  | cst c=>exact h1
  | tup l=>obtain⟨us,h3,h4⟩:=h1;exact⟨us,h3,zij hf h4⟩
  | _=>exact h1.elim
 | [],_::_,h=>h.elim
 | _::_,[],h=>h.elim
theorem q7.fzArgs {P:Program} (hl:laidOutB P=true) {f:FuncId} {args:List TV} {H:q8} {R:TV→q8→Prop} {b m:Nat} {e:TypeId} {xs:List AV}
  (h:q7 P f (args.map (zho b m e xs)) H R):q7 P f args ((b,.var (.arr m e) (.agg xs))::H) R:=by
 intro imm w vs hrep hargs
 obtain⟨h0,cs,⟨E,fz,hc,_,_⟩,hvc⟩:=hrep.obj b (.var (.arr m e) (.agg xs)) (by simp)
 simp only[VC]at hvc
 obtain⟨hm,hvl⟩:=hvc
 have hsz:=QP hl _ _ _ hvl
 rw[Array.length_toList,hm]at hsz
 have h00:imm b=0:=h0
 have hle:(g0 imm).le (g0 (upd imm b (m*P.cellsOf e))):=by
  refine⟨fun x=>?_,fun _ _ _ e=>by cases e⟩
  simp only[g0,upd];split
  ·rename_i ee;rw[ee,h00];exact Nat.zero_le _
  ·exact Nat.le_refl _
 have hk:jH (g0 imm) w w:=fun b cs E fz _ hb=>⟨cs,E,fz,hb,rfl,fun _ _=>rfl⟩
 have hi:QO (g0 imm) w:=hrep.imm
 have hcell:zP w b 0 (m*P.cellsOf e)=cs.toList:=by
  unfold zP
  rw[hc]
  simp only[List.drop_zero]
  rw[List.take_of_length_le (by simp[hsz])]
 have hv2:VL P (g0 (upd imm b (m*P.cellsOf e))) w e xs (zP w b 0 (m*P.cellsOf e)):=by
  rw[hcell];exact ZU hle hi hk _ _ _ hvl
 have hb2:m*P.cellsOf e≤(g0 (upd imm b (m*P.cellsOf e))).imm b:=by simp[g0,upd]
 have hfz:∀d x v,VV P (g0 imm) w d x v→VV P (g0 (upd imm b (m*P.cellsOf e))) w d (fzA b m e xs x) v:=fun d x v hx =>
  ⟨hx.1,zeO hl hle hi hb2 hv2 hm x d _ hx.2⟩
 have hnd:=hrep.nodup
 simp only[q8.keys,List.map_cons,List.nodup_cons]at hnd
 have hrep2:Rep P (g0 (upd imm b (m*P.cellsOf e))) w H:=by
  refine⟨fun x hx=>?_,hnd.2,fun x o ho=>?_,hrep.tab.keep (g:=g0 imm) (g':=g0 (upd imm b (m*P.cellsOf e))) hle hi hk⟩
  ·simp only[g0,upd]at hx ⊢
   split
   ·rename_i ee;rw[ee];exact⟨cs,E,fz,hc,by rw[hsz];exact Nat.le_refl _⟩
   ·rename_i ee;rw[if_neg ee]at hx;exact hrep.imm x hx
  ·have hne:x≠b:=fun ee=>hnd.1 (by rw[←ee];exact List.mem_map.2 ⟨(x,o),ho,rfl⟩)
   have himm:upd imm b (m*P.cellsOf e) x=imm x:=by simp[upd,hne]
   have hob:=hrep.obj x o (List.mem_cons_of_mem _ ho)
   cases o with
   | var d y=>obtain⟨q1,cs',q2,q3⟩:=hob;exact⟨himm.trans q1,cs',q2,j6 hle hi hk _ _ _ q3⟩
   | map k e es=>obtain⟨q1,en,ck,q2,q3⟩:=hob;exact⟨himm.trans q1,en,ck,q2,xO hle hi hk q3.1,q3.2⟩
   | raw o i0 w0=>obtain⟨q1,q2,q3⟩:=hob;exact⟨himm.trans q1,q2,kX q3 hle hk⟩
 refine(h _ w vs hrep2 (zFs hfz hargs)).mono ?_
 rintro e' w' ⟨v,r,imm',H',a,hR,hv,hrep',st⟩
 refine⟨v,r,imm',H',a,hR,hv,hrep',?_⟩
 exact {
  os:=st.os,tape:=st.tape,output:=st.output,size:=st.size,drawn:=st.drawn
  frame:=fun x hx hn=>by
   simp only[q8.keys,List.map_cons,List.mem_cons,not_or]at hn
   obtain⟨q1,q2⟩:=st.frame x hx hn.2
   exact⟨q1,q2.trans (by simp[upd,hn.1])⟩
  imm:=fun x=>Nat.le_trans (hle.1 x) (st.imm x)
  kept:=fun x cs' E' fz' h1 h2=>by
   have hne:x≠b:=fun ee=>by rw[ee]at h1;omega
   have:=st.kept x cs' E' fz' (by simp[upd,hne];exact h1) h2
   simpa[upd,hne]using this
  dom:=fun x hx=>by
   rcases st.dom x hx with h1|h1
   ·left;simp only[q8.keys,List.map_cons,List.mem_cons];exact .inr h1
   ·exact .inr h1 }
@[simp] theorem zoJ:qZ Tryz.prog 24=true:=by kernel_rfl
@[simp] theorem zrO:z8 Tryz.prog (.func 24)=false:=q9 zoJ
def zD8 (r:Read):List (List UInt8):=[r.path,if r.is then r.sum else []]
def zDa (m:Made):List (List UInt8):=[m.path,m.sum]
def zCY (t:zaP):List (List UInt8):=[t.key,Lib.itoa t.reads.length]++t.reads.flatMap zD8++t.outs.flatMap zDa
def TrD (t:zaP):Prop:=t.key.length=32∧(∀r∈t.reads,r.sum.length=32)∧∀m∈t.outs,m.sum.length=32
theorem zDe (a b:List (List UInt8)):zz6 (a++b)=zz6 a++zz6 b:=by simp[zz6]
theorem zE8 (l:List (List UInt8)) (n:Nat):(zz6 l).take n=zz6 (l.take n):=by simp[zz6,List.map_take]
theorem zE1 (l:List (List UInt8)) (n:Nat):(zz6 l).drop n=zz6 (l.drop n):=by simp[zz6,List.map_drop]
theorem zDG (n:Nat):List.replicate n (AV.s [])=zz6 (List.replicate n []):=by simp[zz6]
@[simp] theorem zEO (l:List (List UInt8)):AV.erks (zz6 l)=zz6 l:=by simp[zz6,AV.erks_eq,AV.erk,Function.comp_def]
@[simp] theorem zGg (l:List (List UInt8)):AV.ers (zz6 l)=zz6 l:=by simp[zz6,AV.ers_eq,AV.er,Function.comp_def]
theorem zD3 (x:List UInt8) (l:List (List UInt8)):AV.s x::zz6 l=zz6 (x::l):=rfl
theorem zFm (a:List (List UInt8)) (p q x:List UInt8) (r:List (List UInt8)):(zz6 (a++p::q::r)).set (a.length+1) (.s x)=zz6 (a++p::x::r):=by
 simp only[zz6]
 rw[←List.map_set]
 congr 1
 rw[List.set_append_right _ _ (by omega)]
 simp
noncomputable def zDc (t:zaP):TV:=if zCW t=0 then .tup [(.str,.s (WI (zCY t))),(.int .i64,.i .i64 0)] else .tup [(.str,.s []),(.int .i64,.i .i64 (zCW t))]
theorem zDf {t:zaP} (h:zCW t=0):t.reads.length≤500∧t.outs.length≤1000:=by
 unfold zCW at h
 split at h
 ·cases h
 ·omega
abbrev zEr:Cfg:=⟨fun _=>false,fun n=>n==22⟩
set_option maxHeartbeats 16000000 in
theorem zEC (t:zaP) (ht:TrP t) (hd:TrD t) (hb:zCW t=0→(WI (zCY t)).length≤10000000000):PC Tryz.prog 24 [.av (qD Tryz.prog 46) (qK t)] (zDc t):=by
 unfold PC
 refine q7.sub (R:=fun r H'=>r=zDc t) ?_ (fun r H' hr _=>⟨[],HSub.of_sub (List.nil_sublist _),hr,rfl⟩)
 refine zov Tryz.func24 zEr fun imm0 w0=>?_
 simp (disch:=omega) [zz,qK]
 refine qL (zDX t ht) rfl rfl (by simp) (by simp[qS,TV.er,AV.er,AV.ers,qK]) ?_
 by_cases hc:zCW t=0
 rotate_left
 ·simp (disch:=omega) [zz,hc,Tryz.f24,zDc]
 obtain⟨hrl,hol⟩:=zDf hc
 obtain⟨hd1,hd2,hd3⟩:=hd
 simp (disch:=omega) [zz,hc]
 (repeat with_reducible refine om ?_)
 refine jC (zDz t.key hd1) rfl rfl (by simp) (by simp[qS,TV.er]) ?_
 simp (disch:=omega) [zz,qF]
 (repeat with_reducible refine om ?_)
 refine jC (zFF t.reads.length (by omega) (by omega)) rfl rfl (by simp) (by simp[qS,TV.er,AV.er]) ?_
 simp (disch:=omega) [zz]
 refine⟨(show UZ _ _=true by kernel_rfl),?_⟩
 intro b0
 refine AT.loopV (α:=Nat × Nat × Nat × List (List UInt8) × List (List UInt8)) (fun x ver=>St.of [(1,.loc 1 []),(5,.av (.slice 9) (.msl x.2.1 9 0 x.2.2.2.1.length x.2.2.1)),(24,.av (.slice 54) (qF t.reads)),(25,.av (.int .i64) (.i .i64 t.reads.length)),(26,.av (.int .i64) (.i .i64 x.1))] [(1,(qD Tryz.prog 46,qK t))] ver [(x.2.1,.var (.arr x.2.2.1 9) (.agg (zz6 (x.2.2.2.1++x.2.2.2.2))))])
  (fun x=>x.1≤t.reads.length∧x.2.2.2.1=[t.key,Lib.itoa t.reads.length]++(t.reads.take x.1).flatMap zD8∧x.2.2.2.1.length+x.2.2.2.2.length=x.2.2.1∧x.2.2.2.1.length=2+2*x.1) (fun x=>t.reads.length-x.1) (0,b0,2,[t.key,Lib.itoa t.reads.length],[]) ?_ ?_ ?_
 ·apply Le.of<;>simp[qU,qG,qO,qH,qP,qK,qF,qI,qJ,qN,qK,qF,zz6]<;>try omega
 ·simp
 ·rintro⟨k,b,cap,ps,rs⟩ ver ⟨hk,hps,hcap,hpl⟩ KL hN hE
  simp only at hk hps hcap hpl hN
  have e1:(zz6 (ps++rs)).take ps.length=zz6 ps:=by rw[zE8,List.take_left]
  have e2:(zz6 (ps++rs)).drop (ps.length+2)=zz6 (rs.drop 2):=by
   rw[zE1,List.drop_append,List.drop_eq_nil_of_le (by omega)];simp
  have e5:∀(p x:List UInt8) r',(zz6 ps++zz6 (p::[]::r')).set (ps.length+1) (.s x)=zz6 (ps++p::x::r'):=by
   intro p x r'
   rw[←zDe,zFm]
  refine qM (cf:=zEr) laid mixed _ _ _ (by kernel_rfl) ?_
  by_cases hlt:k<t.reads.length
  ·have hlt':(k:Int)<t.reads.length:=by omega
   have hg:=KB qI t.reads k hlt
   have hds:=hd2 t.reads[k] (List.getElem_mem _)
   have htk:(t.reads.take (k+1)).flatMap zD8=(t.reads.take k).flatMap zD8++zD8 t.reads[k]:=by
    rw[List.take_succ_eq_append_getElem hlt,List.flatMap_append];simp
   obtain⟨r,hr⟩:∃r,r=t.reads[k]:=⟨_,rfl⟩
   rw[←hr]at hg hds htk
   have hnew:∀q,q=(if r.is then r.sum else [])→ps++[r.path,q]=[t.key,Lib.itoa t.reads.length]++(t.reads.take (k+1)).flatMap zD8:=by
    intro q hq;rw[htk,hps,hq];simp[zD8]
   simp (disch:=omega) [zz,hlt',hg,qF,qI,e1,e2]
   have hmin:min ps.length (ps.length+rs.length)=ps.length:=by omega
   cases his:r.is
   ·refine⟨by omega,⟨by omega,by omega⟩,fun hcp=>?_,fun hcp b' cap' hb' hcp'=>?_⟩
    ·simp (disch:=omega) [zz,his,zD3]
     refine hN _ (k+1,b,cap,ps++[r.path,[]],rs.drop 2) ?_ ⟨by omega,hnew [] (by simp[his]),by simp;omega,by simp;omega⟩ (by simp;omega)
     apply Le.of<;>simp[qU,qG,qO,qH,qP,qK,qF,qI,qJ,qN,qK,qF,zDe,zD3,e1,e2]<;>try omega
    ·simp (disch:=omega) [zz,his,zD3,hmin]
     refine hN _ (k+1,b',cap',ps++[r.path,[]],List.replicate (cap'-(ps.length+2)) []) ?_ ⟨by omega,hnew [] (by simp[his]),by simp at hcp' ⊢;omega,by simp;omega⟩ (by simp;omega)
     apply Le.of<;>simp[qU,qG,qO,qH,qP,qK,qF,qI,qJ,qN,qK,qF,zDe,zD3,zDG,e1,e2,hmin]<;>try omega
   ·refine⟨by omega,⟨by omega,by omega⟩,fun hcp=>?_,fun hcp b' cap' hb' hcp'=>?_⟩
    ·simp (disch:=omega) [zz,his,zD3]
     refine qE (R:=fun r' H'=>r'=.av .str (.s r.sum)∧H'=[]) [] [(b,.var (.arr cap 9) (.agg (zz6 ps++zz6 (r.path::[]::rs.drop 2))))] (by simp) rfl (by simp[qQ]) (by simp) ?_ ?_
     ·exact q7.args (zDz r.sum hds) (by simp[qS,TV.er])
     rintro r' H' ⟨rfl,rfl⟩ _
     refine⟨_,HSub.refl _,?_⟩
     simp (disch:=omega) [zz]
     (repeat with_reducible refine om ?_)
     refine hN _ (k+1,b,cap,ps++[r.path,r.sum],rs.drop 2) ?_ ⟨by omega,hnew r.sum (by simp[his]),by simp;omega,by simp;omega⟩ (by simp;omega)
     apply Le.of<;>simp[qU,qG,qO,qH,qP,qK,qF,qI,qJ,qN,qK,qF,e5]<;>try omega
    ·simp (disch:=omega) [zz,his,zD3,hmin,zDG]
     refine qE (R:=fun r' H'=>r'=.av .str (.s r.sum)∧H'=[]) [] [(b',.var (.arr cap' 9) (.agg (zz6 ps++zz6 (r.path::[]::List.replicate (cap'-(ps.length+2)) [])))),(b,.var (.arr cap 9) (.agg (zz6 (ps++rs))))] (by simp) rfl (by simp[qQ]) (by simp) ?_ ?_
     ·exact q7.args (zDz r.sum hds) (by simp[qS,TV.er])
     rintro r' H' ⟨rfl,rfl⟩ _
     refine⟨_,HSub.refl _,?_⟩
     simp (disch:=omega) [zz,hb']
     (repeat with_reducible refine om ?_)
     refine hN _ (k+1,b',cap',ps++[r.path,r.sum],List.replicate (cap'-(ps.length+2)) []) ?_ ⟨by omega,hnew r.sum (by simp[his]),by simp at hcp' ⊢;omega,by simp;omega⟩ (by simp;omega)
     apply Le.of<;>simp[qU,qG,qO,qH,qP,qK,qF,qI,qJ,qN,qK,qF,e5]<;>try omega
  ·have hlt':¬(k:Int)<t.reads.length:=by omega
   have hkn:k=t.reads.length:=by omega
   simp (disch:=omega) [zz,hlt',qF,qK]
   refine hE _ _ (by simp) ?_
   rw[hkn,List.take_length]at hps
   rw[hkn]at hpl
   simp (disch:=omega) [zz,qK,qJ]
   refine AT.loopV (α:=Nat × Nat × Nat × List (List UInt8) × List (List UInt8)) (fun x ver=>St.of [(1,.loc 1 []),(5,.av (.slice 9) (.msl x.2.1 9 0 x.2.2.2.1.length x.2.2.1)),(47,.av (.slice 80) (qJ t.outs)),(48,.av (.int .i64) (.i .i64 t.outs.length)),(49,.av (.int .i64) (.i .i64 x.1))] [(1,(qD Tryz.prog 46,qK t))] ver [(x.2.1,.var (.arr x.2.2.1 9) (.agg (zz6 (x.2.2.2.1++x.2.2.2.2))))])
    (fun x=>x.1≤t.outs.length∧x.2.2.2.1=[t.key,Lib.itoa t.reads.length]++t.reads.flatMap zD8++(t.outs.take x.1).flatMap zDa∧x.2.2.2.1.length+x.2.2.2.2.length=x.2.2.1∧x.2.2.2.1.length=2+2*t.reads.length+2*x.1) (fun x=>t.outs.length-x.1) (0,b,cap,ps,rs) ?_ ?_ ?_
   ·apply Le.of<;>simp[qU,qG,qO,qH,qP,qK,qF,qI,qJ,qN,qK,qF,qJ]<;>try omega
   ·refine⟨by simp,by simp[hps],hcap,by simp[hpl]⟩
   clear hN hE
   clear e1 e2 e5
   rintro⟨k2,b2,cap2,ps2,rs2⟩ ver2 ⟨hk2,hps2,hcap2,hpl2⟩ KL2 hN2 hE2
   simp only at hk2 hps2 hcap2 hpl2 hN2
   have e1:(zz6 (ps2++rs2)).take ps2.length=zz6 ps2:=by rw[zE8,List.take_left]
   have e2:(zz6 (ps2++rs2)).drop (ps2.length+2)=zz6 (rs2.drop 2):=by
    rw[zE1,List.drop_append,List.drop_eq_nil_of_le (by omega)];simp
   refine qM (cf:=zEr) laid mixed _ _ _ (by kernel_rfl) ?_
   by_cases hlt2:k2<t.outs.length
   ·have hlt2':(k2:Int)<t.outs.length:=by omega
    have hg:=KB qN t.outs k2 hlt2
    have hds:=hd3 t.outs[k2] (List.getElem_mem _)
    have htk:(t.outs.take (k2+1)).flatMap zDa=(t.outs.take k2).flatMap zDa++zDa t.outs[k2]:=by
     rw[List.take_succ_eq_append_getElem hlt2,List.flatMap_append];simp
    obtain⟨m,hm⟩:∃m,m=t.outs[k2]:=⟨_,rfl⟩
    rw[←hm]at hg hds htk
    have hnew:ps2++[m.path,m.sum]=[t.key,Lib.itoa t.reads.length]++t.reads.flatMap zD8++(t.outs.take (k2+1)).flatMap zDa:=by
     rw[htk,hps2];simp[zDa]
    have hmin:min ps2.length (ps2.length+rs2.length)=ps2.length:=by omega
    simp (disch:=omega) [zz,hlt2',hg,qJ,qN]
    (repeat with_reducible refine om ?_)
    refine jC (zDz m.sum hds) rfl rfl (by simp) (by simp[qS,TV.er]) ?_
    simp (disch:=omega) [zz,e1,e2]
    refine⟨by omega,⟨by omega,by omega⟩,fun hcp=>?_,fun hcp b' cap' hb' hcp'=>?_⟩
    ·refine hN2 _ (k2+1,b2,cap2,ps2++[m.path,m.sum],rs2.drop 2) ?_ ⟨by omega,hnew,by simp;omega,by simp;omega⟩ (by simp;omega)
     apply Le.of<;>simp[qU,qG,qO,qH,qP,qK,qF,qI,qJ,qN,qK,qJ,zDe,zD3]<;>try omega
    ·refine hN2 _ (k2+1,b',cap',ps2++[m.path,m.sum],List.replicate (cap'-(ps2.length+2)) []) ?_ ⟨by omega,hnew,by simp at hcp' ⊢;omega,by simp;omega⟩ (by simp;omega)
     apply Le.of<;>simp[qU,qG,qO,qH,qP,qK,qF,qI,qJ,qN,qK,qJ,zDe,zD3,zDG,hmin]<;>try omega
   ·have hlt2':¬(k2:Int)<t.outs.length:=by omega
    have hkn2:k2=t.outs.length:=by omega
    have hbl:ps2=zCY t:=by rw[hps2,hkn2,List.take_length];rfl
    simp (disch:=omega) [zz,hlt2']
    refine hE2 _ _ (by simp) ?_
    simp (disch:=omega) [zz]
    refine jP (R:=fun r H'=>r=.av .str (.s (WI (zCY t)))) rfl (by simp[qQ]) (by simp) ?_ ?_
    ·simp only[q8.er_cons,q8.er_nil,HObj.er,AV.erk,zEO]
     refine q7.fzArgs laid ?_
     have:=zzx (zCY t) (by rw[←hbl];omega) (hb hc)
     have:=q7.sub this (R':=fun r H'=>r=.av .str (.s (WI (zCY t)))) (fun r H' h _=>⟨H',HSub.refl _,h.1⟩)
     have harg:fzA b2 cap2 9 (zz6 (ps2++rs2)) (.msl b2 9 0 ps2.length cap2)=.sl .no (zz6 (zCY t)):=by
      simp only[fzA]
      rw[if_pos ⟨trivial,trivial,by omega,by omega⟩,List.drop_zero,e1,hbl]
     have hgo:∀l:List TV,l=[.av (.slice 9) (.sl .no (zz6 (zCY t)))]→q7 Tryz.prog 50 l [] (fun r H'=>r=.av .str (.s (WI (zCY t)))):=fun l e=>by rw[e];exact this
     refine hgo _ ?_
     show [TV.av _ (fzA _ _ _ _ _)]=_
     simp only[AV.er]
     rw[harg]
    rintro r H' rfl
    simp (disch:=omega) [zz,Tryz.f24,zDc,hc]
@[simp] theorem zoD:qZ Tryz.prog 16=true:=by kernel_rfl
@[simp] theorem zrv:z8 Tryz.prog (.func 16)=false:=q9 zoD
def tA:zaP:=⟨zero32,[⟨[97],false,zero32⟩],[]⟩
theorem zG3:yV [97]=true:=by decide
theorem zFJ:zCW tA=0:=by
 simp[zCW,tA,zD1,zG3,zD4]
theorem zG1:Lib.itoa 32=[51,50]:=by simp[Lib.itoa,Lib.decDigits]
theorem zGr:Lib.itoa 1=[49]:=by simp[Lib.itoa,Lib.decDigits]
theorem zGh:Lib.itoa 0=[48]:=by simp[Lib.itoa,Lib.decDigits]
theorem zDv:zero32.length=32:=by simp[zero32]
theorem zDW:WI (zCY tA)=[51,50,58]++(zero32++[49,58,49,49,58,97,48,58]):=by
 simp[zCY,tA,WI,zD8,zDv,zG1,zGr,zGh,-List.reduceReplicate]
theorem zDB:(WI (zCY tA)).length=43:=by rw[zDW];simp[zDv]
theorem zFg:(WI (zCY tA)).take 3=[51,50,58]:=by rw[zDW];rfl
theorem zEP:(WI (zCY tA)).drop 35=[49,58,49,49,58,97,48,58]:=by rw[zDW];rfl
theorem zEU:zDc tA=.tup [(.str,.s (WI (zCY tA))),(.int .i64,.i .i64 0)]:=by simp[zDc,zFJ]
theorem zFq:zDd (zD0 [] tA.reads)=.tup [(.bool,.b false),(.str,.s [97])]:=by simp[zD0,tA,zDd]
set_option maxHeartbeats 4000000 in
theorem zFw:PC Tryz.prog 16 [] (.av .bool (.b true)):=by
 obtain⟨row,hrow⟩:∃row,row=WI (zCY tA):=⟨_,rfl⟩
 have h1:=zDB
 have h2:=zFg
 have h3:=zEP
 have h4:=zEU
 rw[←hrow]at h1 h2 h3 h4
 refine zow Tryz.func16 cf0 fun imm0 w0=>?_
 simp (disch:=omega) [zz]
 refine qL (zEC tA ⟨⟨by simp[tA],by simp[tA]⟩,⟨by simp[tA],by simp[tA]⟩⟩ ⟨by simp[tA,zero32],by simp[tA,zero32],by simp[tA]⟩ (fun _=>by rw[zDB];omega)) rfl rfl (by simp) (by simp[qS,TV.er,AV.er,AV.ers,qK,qF,qJ,qI,tA,zero32,KW]) ?_
 simp (disch:=omega) [zz,h4]
 refine qL (zEI tA [] (by simp) (by simp[tA])) rfl rfl (by simp) (by simp[qS,TV.er,AV.er,AV.ers,qK,qF,qJ,qI,tA,zero32,KW]) ?_
 have h5:row.take 43=row:=List.take_of_length_le (by omega)
 simp (disch:=omega) [zz,zFq,h1,h2,h3,h5,Tryz.f16]
end Go.Proofs.YtcgpcfcbienapaaGreatDoor
end
