/- Rows of texts taken apart; numbers of texts: plain. No condition beyond each theorem's own. -/
import Derived.Test.YtcgpcfcbienapaaGreatDoorP27aToP25
import Derived.Lib.ParseIntBCases
set_option linter.unusedSimpArgs false
set_option linter.unusedVariables false
set_option linter.unusedSectionVars false
section
set_option maxRecDepth 100000
namespace Go.Proofs.YtcgpcfcbienapaaGreatDoor
open Go Go.Ab
open Classical
variable [Sel] [SelPow]
inductive HeadR
 | ok (n:Nat) (rest:List UInt8)
 | err (e:Int)
abbrev zDt (c:UInt8):Bool:=decide (48≤c.toNat)&&decide (c.toNat≤57)
def zD2:Nat→Nat→List UInt8→HeadR
 | _,_,[]=>.err 4
 | k,n,c::r=>if c=58∧0<k then .ok n r else if zDt c=false∨k=9∨(0<k∧n=0) then .err 3 else zD2 (k+1) (10*n+(c.toNat-48)) r
def zDb:Nat→List (List UInt8)→List UInt8→List (List UInt8) × Int
 | 0,out,_=>(out,0)
 | f+1,out,b=>if b=[] then(out,0) else match zD2 0 0 b with
  | .err e=>([],e)
  | .ok n rest=>if rest.length<n then([],4) else zDb f (out++[rest.take n]) (rest.drop n)
def zD9 (b:List UInt8):List (List UInt8) × Int:=zDb (b.length+1) [] b
theorem zDE:∀ {b:List UInt8} {k n m:Nat} {rest:List UInt8},zD2 k n b=.ok m rest→rest.length<b.length
 | [],_,_,_,_,h=>by simp[zD2]at h
 | c::r,k,n,m,rest,h=>by
  unfold zD2 at h
  split at h
  ·cases h;simp
  ·split at h
   ·cases h
   ·have:=zDE h;simp;omega
/-! ### numbers -/
noncomputable def zDD (c:List UInt8):Option Int:=match Lib.parseIntB 64 c with
 | .ok v=>if Lib.itoa v=c then some v else none
 | _=>none
def zFr (a:Nat) (l:List UInt8):Nat:=l.foldl (fun a b=>a*10+(b.toNat-48)) a
theorem zF8:∀(l:List UInt8) (a:Nat),a≤zFr a l
 | [],a=>Nat.le_refl _
 | c::l,a=>Nat.le_trans (by omega) (zF8 l (a*10+(c.toNat-48)))
theorem zDi (M:Nat) (hM:M≤18446744073709551615):∀(l:List UInt8) (a:Nat),(∀c∈l,zDt c=true)→zFr a l≤M→Lib.parseUintM M a l=.ok (zFr a l)
 | [],a,_,_=>rfl
 | c::l,a,h,hv=>by
  have h1:=h c (by simp)
  simp only[zDt,Bool.and_eq_true,decide_eq_true_eq]at h1
  have h2:a*10+(c.toNat-48)≤zFr a (c::l):=zF8 l _
  unfold Lib.parseUintM
  rw[if_pos h1,if_neg (by omega),if_neg (by omega)]
  exact zDi M hM l _ (fun x hx=>h x (by simp[hx])) hv
theorem zDp (u:Nat):∀c∈Lib.decDigits u,zDt c=true:=by
 induction u using Nat.strongRecOn with
 | ind u ih =>
  rw[Lib.decDigits]
  have key:∀d:Nat,d<10→zDt (UInt8.ofNat (48+d))=true:=fun d hd=>by
   have:(UInt8.ofNat (48+d)).toNat=48+d:=by simp;omega
   simp only[zDt,this,Bool.and_eq_true,decide_eq_true_eq];omega
  split
  ·rename_i h
   intro b hb
   rw[List.mem_singleton]at hb
   subst hb
   exact key u h
  ·rename_i h
   intro b hb
   rcases List.mem_append.1 hb with hb|hb
   ·exact ih (u / 10) (by omega) b hb
   ·rw[List.mem_singleton]at hb
    subst hb
    exact key (u % 10) (by omega)
theorem zD6 (u:Nat):Lib.decDigits u≠[]:=by
 rw[Lib.decDigits];split<;>simp
theorem zEV (v:Int) (h0:-9223372036854775808≤v) (h1:v≤9223372036854775807):Lib.parseIntB 64 (Lib.itoa v)=.ok v:=by
 have key:∀u:Nat,u≤9223372036854775808→Lib.parseUintB 64 (Lib.decDigits u)=.ok u:=fun u hu=>by
  have hv:zFr 0 (Lib.decDigits u)=u:=zyH u
  unfold Lib.parseUintB
  rw[if_neg (zD6 u)]
  have:=zDi (2 ^ 64-1) (by decide) (Lib.decDigits u) 0 (zDp u) (by rw[hv];omega)
  rw[hv]at this;exact this
 by_cases hv:v<0
 ·obtain⟨u,rfl⟩:∃u:Nat,v=-(u:Int):=⟨v.natAbs,by omega⟩
  have e:Lib.itoa (-(u:Int))=45::Lib.decDigits u:=by unfold Lib.itoa;rw[if_pos hv];simp
  rw[e,Lib.parseIntB_minus,key u (by omega)]
  simp only[Lib.signedC]
  rw[if_neg (by omega)]
 ·obtain⟨u,rfl⟩:∃u:Nat,v=(u:Int):=⟨v.toNat,by omega⟩
  have e:Lib.itoa (u:Int)=Lib.decDigits u:=zyP u
  rw[e]
  have hd:=zDp u
  cases hc:Lib.decDigits u with
  | nil=>exact absurd hc (zD6 u)
  | cons c r =>
   have h2:=hd c (by rw[hc];simp)
   simp only[zDt,Bool.and_eq_true,decide_eq_true_eq]at h2
   rw[Lib.parseIntB_plain 64 c r (by omega) (by omega),←hc,key u (by omega)]
   simp only[Lib.signlessC]
   rw[if_neg (by omega)]
theorem zFi {v:Int} (h0:-9223372036854775808≤v) (h1:v≤9223372036854775807):zDD (Lib.itoa v)=some v:=by
 unfold zDD
 rw[zEV v h0 h1]
 simp
theorem zFk {c:List UInt8} {v:Int} (h:zDD c=some v):Lib.parseIntB 64 c=.ok v∧Lib.itoa v=c∧-9223372036854775808≤v∧v≤9223372036854775807:=by
 unfold zDD at h
 split at h
 ·rename_i w hw
  split at h
  ·rename_i hi
   cases h
   refine⟨hw,hi,?_⟩
   unfold Lib.parseIntB at hw
   split at hw
   ·cases hw
   ·rename_i ch r
    simp only at hw
    split at hw
    ·cases hw
    ·cases hw
    ·split at hw
     ·cases hw
     ·split at hw
      ·cases hw
      ·rename_i h1 h2
       cases hw
       split
       ·rename_i h3
        have:¬2 ^ (64-1)<_:=fun h=>h2 ⟨h3,h⟩
        simp at this
        omega
       ·rename_i h3
        have:¬2 ^ (64-1)≤_:=fun h=>h1 ⟨h3,h⟩
        simp at this
        omega
  ·cases h
 ·cases h
end Go.Proofs.YtcgpcfcbienapaaGreatDoor
end
section
set_option maxRecDepth 100000
namespace Go.Proofs.YtcgpcfcbienapaaGreatDoor
open Go Go.Ab
open Classical
variable [Sel] [SelPow]
end Go.Proofs.YtcgpcfcbienapaaGreatDoor
end
