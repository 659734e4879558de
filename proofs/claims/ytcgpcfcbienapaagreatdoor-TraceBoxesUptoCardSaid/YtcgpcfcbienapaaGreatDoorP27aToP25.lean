/- A trace that may be, told of its reads: plain. No condition beyond each theorem's own. -/
import Derived.Test.YtcgpcfcbienapaaGreatDoorKO0ToP21a
import Derived.Test.YtcgpcfcbienapaaGreatDoorP27b
import Derived.Test.YtcgpcfcbienapaaGreatDoorFK0ToFK4
set_option linter.unusedSimpArgs false
set_option linter.unusedVariables false
set_option linter.unusedSectionVars false
section
set_option maxRecDepth 100000
namespace Go.Proofs.YtcgpcfcbienapaaGreatDoor
open Go Go.Ab
open Classical
variable [Sel]
theorem zDu (known b:List Read):∀a:List Read,(∀r∈a,known.find? (fun x=>decide (x.path=r.path))=some r)→zD0 known (a++b)=zD0 known b
 | [],_=>rfl
 | r::a,h=>by
  have h1:=h r (by simp)
  have h2:=zDu known b a fun x hx=>h x (by simp[hx])
  simp only[List.cons_append,zD0,h1,if_true]
  exact h2
theorem zFu {l:List Read} (h:(l.map (·.path)).Nodup) {i:Nat} (hi:i<l.length):zD0 (l.take i) l=(false,l[i].path):=by
 have e:l=l.take i++(l[i]::l.drop (i+1)):=by rw[List.getElem_cons_drop,List.take_append_drop]
 have h1:zD0 (l.take i) (l.take i++(l[i]::l.drop (i+1)))=zD0 (l.take i) (l[i]::l.drop (i+1)):=zDu _ _ _ (zDN (zEX h i))
 rw[←e]at h1
 rw[h1]
 have hn:(l.take i).find? (fun x=>decide (x.path=l[i].path))=none:=by
  rw[List.find?_eq_none]
  intro x hx
  simp only[decide_eq_true_eq]
  intro e2
  obtain⟨j,hj,e3⟩:=List.mem_take_iff_getElem.1 hx
  have hj':j<i∧j<l.length:=by omega
  have:=List.pairwise_iff_getElem.1 h j i (by simpa using hj'.2) (by simpa using hi) hj'.1
  simp only[List.getElem_map]at this
  exact this (by rw[e3,e2])
 simp only[zD0,hn]
theorem zFj {l:List Read} (h:(l.map (·.path)).Nodup):zD0 l l=(true,[]):=by
 have:=zDu l [] l (zDN h)
 rw[List.append_nil]at this
 rw[this];rfl
end Go.Proofs.YtcgpcfcbienapaaGreatDoor
end
section
set_option maxRecDepth 100000
namespace Go.Proofs.YtcgpcfcbienapaaGreatDoor
open Go Go.Ab
open Classical
variable [Sel] [SelPow]
def okS (r:Read):Prop:=r.sum.length=32∧(r.is=false→r.sum=zero32)
theorem zEn (l:List Read):(l.flatMap zD8).length=2*l.length:=by
 induction l with
 | nil=>rfl
 | cons r l ih=>rw[List.flatMap_cons,List.length_append,ih];simp[zD8];omega
theorem zDh:∀ {l:List Read} {met:List (List UInt8)},zD1 met l=0→∀r∈l,yV r.path=true∧(r.is=false→r.sum=zero32)
 | [],_,_,r,hr=>by cases hr
 | x::l,met,h,r,hr=>by
  unfold zD1 at h
  split at h
  ·cases h
  ·split at h
   ·cases h
   ·split at h
    ·cases h
    ·rename_i h1 h2 h3
     rcases List.mem_cons.1 hr with rfl|hr
     ·exact⟨by simpa using h1,fun hi=>Classical.byContradiction fun hn=>h3 ⟨hi,hn⟩⟩
     ·exact zDh h r hr
theorem zDr:∀ {l:List Made} {o:Option (List UInt8)},zD4 o l=0→∀m∈l,zuT m.path zwB=true
 | [],_,_,m,hm=>by cases hm
 | x::l,none,h,m,hm=>by
  unfold zD4 at h
  split at h
  ·cases h
  ·rename_i h1
   rcases List.mem_cons.1 hm with rfl|hm
   ·simpa using h1
   ·exact zDr h m hm
 | x::l,some q,h,m,hm=>by
  unfold zD4 at h
  split at h
  ·cases h
  ·split at h
   ·cases h
   ·split at h
    ·cases h
    ·rename_i h1 _ _
     rcases List.mem_cons.1 hm with rfl|hm
     ·simpa using h1
     ·exact zDr h m hm
theorem zDx (c:UInt8):∀l,l.length+1=((qT c l).map fun x=>x.length+1).sum
 | []=>rfl
 | b::l=>by
  have ih:=zDx c l
  unfold qT
  split
  ·simp only[List.map_cons,List.sum_cons,List.length_cons,List.length_nil];omega
  ·split
   ·rename_i h;rw[h]at ih;simp at ih
   ·rename_i x r h
    rw[h]at ih
    simp only[List.map_cons,List.sum_cons,List.length_cons]at ih ⊢
    omega
theorem zEL:∀l:List (List UInt8),(∀x∈l,x.length≤64)→(l.map fun x=>x.length+1).sum≤65*l.length
 | [],_=>by simp
 | x::l,h=>by
  have:=zEL l fun y hy=>h y (by simp[hy])
  have:=h x (by simp)
  simp only[List.map_cons,List.sum_cons,List.length_cons];omega
theorem zEm {l:List UInt8} (h:yV l=true):l.length≤1040:=by
 simp only[yV,Bool.and_eq_true,decide_eq_true_eq,List.all_eq_true]at h
 have h1:=zDx 47 l
 have h2:=zEL (qT 47 l) fun x hx=>by
  have:=h.2 x hx
  simp only[Q0,Bool.and_eq_true,decide_eq_true_eq]at this
  exact this.1.2.1
 omega
theorem zDw (u:Nat):(Lib.decDigits u).length≤u+1:=by
 induction u using Nat.strongRecOn with
 | ind u ih =>
  rw[Lib.decDigits]
  split
  ·simp
  ·have:=ih (u / 10) (by omega)
   simp;omega
theorem zyW:∀ {l:List (List UInt8)} {n:Nat},(∀x∈l,x.length≤n)→(WI l).length≤(2*n+2)*l.length
 | [],_,_=>by simp[WI]
 | s::l,n,h=>by
  have ih:=zyW (l:=l) fun y hy=>h y (by simp[hy])
  have h1:=h s (by simp)
  have h2:=zDw s.length
  rw[zyI,zyP]
  simp only[List.length_append,List.length_cons,Nat.mul_add]
  omega
theorem zEl (l:List Made):(l.flatMap zDa).length=2*l.length:=by
 induction l with
 | nil=>rfl
 | cons r l ih=>rw[List.flatMap_cons,List.length_append,ih];simp[zDa];omega
theorem zDC {t:zaP} (h:zCW t=0):zD1 [] t.reads=0∧zD4 none t.outs=0:=by
 unfold zCW at h
 split at h
 ·cases h
 ·split at h
  ·rename_i h1;exact(h1 h).elim
  ·rename_i h1;exact⟨by simpa using h1,h⟩
theorem zEv {t:zaP} (hd:TrD t) (h:zCW t=0):∀r∈t.reads,okS r:=fun r hr=>⟨hd.2.1 r hr,(zDh (zDC h).1 r hr).2⟩
end Go.Proofs.YtcgpcfcbienapaaGreatDoor
end
