/- An action by what is known: the program. No condition. -/
import Derived.Test.YtdkieabmeiojjaaGreatDoorSB0ToFW1
set_option linter.unusedSimpArgs false
set_option linter.unusedVariables false
set_option linter.unusedSectionVars false
set_option maxRecDepth 100000
namespace Go.Proofs.YtdkieabmeiojjaaGreatDoor
open Go Go.Ab
open Classical
section
variable [Sel] [SelPow] [SelMax]
def YR:Txt:=[111,117,116]
def JC (fs:List jK) (i:Nat) (h:i<fs.length):Int :=
 if w5 fs[i].path=false\/fs[i].path=YR\/Z8 fs[i].path YR=true then 7
 else if h0:0<i then(if fs[i].path=(fs[i-1]'(by omega)).path then 8 else if Op.bytesLess fs[i].path (fs[i-1]'(by omega)).path=true then 2 else if 65536<fs[i].data.length then 6 else 0)
 else if 65536<fs[i].data.length then 6 else 0
noncomputable def XW (fs:List jK):Int:=if 1024<fs.length then 6 else if h:∃i,∃hi:i<fs.length,JC fs i hi≠0/\∀j (hj:j<i),JC fs j (by omega)=0 then JC fs h.choose h.choose_spec.choose else 0
theorem zgN {fs:List jK} (h0:¬1024<fs.length) {k:Nat} (hk:k<fs.length) (h1:JC fs k hk≠0) (h2:∀j (hj:j<k),JC fs j (by omega)=0):XW fs=JC fs k hk:=by
 have hex:∃i,∃hi:i<fs.length,JC fs i hi≠0/\∀j (hj:j<i),JC fs j (by omega)=0:=⟨k,hk,h1,h2⟩
 unfold XW
 rw[if_neg h0,dif_pos hex]
 obtain⟨hi,hne,hall⟩:=hex.choose_spec
 have:hex.choose=k:=by
  rcases Nat.lt_trichotomy hex.choose k with h|h|h
  ·exact absurd (h2 _ h) hne
  ·exact h
  ·exact absurd (hall k h) h1
 simp only[this]
theorem zbV {fs:List jK} (h0:¬1024<fs.length) (h2:∀j (hj:j<fs.length),JC fs j hj=0):XW fs=0:=by
 unfold XW
 rw[if_neg h0,dif_neg]
 rintro⟨i,hi,h,_⟩
 exact h (h2 i hi)
end
end Go.Proofs.YtdkieabmeiojjaaGreatDoor
