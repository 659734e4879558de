/- What a pattern's part says of a path's part: the program. No condition. -/
import Derived.Test.YtdkieabmeiojjaaGreatDoorRW3ToGB0
set_option linter.unusedSimpArgs false
set_option linter.unusedVariables false
set_option linter.unusedSectionVars false
set_option maxHeartbeats 64000000
set_option maxRecDepth 100000
namespace Go.Proofs.YtdkieabmeiojjaaGreatDoor
open Go Go.Ab
open Classical
section
variable [Sel]
theorem zc9 (l:List UInt8) (c:UInt8) (hl:l.length<=1000000000):PC Tryz.prog 199 [.av .str (.s l),.av (.int .u8) (.i .u8 c.toNat)] (.av .str (.s (KO c l.length l))):=by
 refine zow Tryz.func199 cf0 fun imm0 w0=>?_
 simp (disch:=omega) [zz]
 refine AT.loop' (α:=List UInt8) (fun x=>St.of [(0,.av .str (.s x)),(1,.av (.int .u8) (.i .u8 c.toNat))] [] (fun _=>0) []) (fun x=>x.length<=1000000000/\KO c x.length x=KO c l.length l) (fun x=>x.length) l ?_ ?_ ?_
 ·apply Le.of<;>simp[le9,z6]<;>try omega
 ·exact⟨hl,rfl⟩
 rintro x ⟨hx,hxe⟩ KL hN hE
 refine zrd cf0 ?_
 rcases List.eq_nil_or_concat x with rfl|⟨m,d,rfl⟩
 ·simp (disch:=omega) [zz]
  refine hE _ _ (by simp) ?_
  have:KO c l.length l=[]:=by rw[<-hxe];rfl
  simp (disch:=omega) [zz,Tryz.f199,this]
 ·rw[List.concat_eq_append]at hx hxe |-
  simp only[List.length_append,List.length_singleton]at hx hxe
  have hl1:((m++[d]).length:Int)=m.length+1:=by simp
  have h1:(0:Int)<(m.length:Int)+1:=by omega
  have hg:(m++[d])[m.length]?=some d:=by simp
  have hm:(m++[d]).take m.length=m:=by simp
  by_cases hd:d=c
  ·subst hd
   have hst:KO d (m.length+1) (m++[d])=KO d m.length m:=by
    rw[KO,if_pos (by simp),List.dropLast_concat]
   simp (disch:=omega) [zz,h1,hg,hm]
   try (repeat with_reducible refine om ?_)
   refine hN _ m ?_ ⟨by omega,by rw[<-hxe,hst]⟩ (by simp)
   apply Le.of<;>simp[le9,z6]<;>try omega
  ·have hd':¬(d.toNat:Int)=c.toNat:=fun e=>hd (UInt8.toNat_inj.1 (by omega))
   have hst:KO c (m.length+1) (m++[d])=m++[d]:=by
    rw[KO,if_neg (by simp[hd])]
   simp (disch:=omega) [zz,h1,hg,hm,hd']
   try (repeat with_reducible refine om ?_)
   refine hE _ _ (by simp) ?_
   simp (disch:=omega) [zz,Tryz.f199,<-hxe,hst]
theorem zdO (l:List UInt8) (c:UInt8) (hl:l.length<=1000000000):PC Tryz.prog 198 [.av .str (.s l),.av (.int .u8) (.i .u8 c.toNat)] (.av .str (.s (Y6 c l))):=by
 refine zow Tryz.func198 cf0 fun imm0 w0=>?_
 simp (disch:=omega) [zz]
 refine AT.loop' (α:=List UInt8) (fun x=>St.of [(0,.av .str (.s x)),(1,.av (.int .u8) (.i .u8 c.toNat))] [] (fun _=>0) []) (fun x=>x.length<=1000000000/\Y6 c x=Y6 c l) (fun x=>x.length) l ?_ ?_ ?_
 ·apply Le.of<;>simp[le9,z6]<;>try omega
 ·exact⟨hl,rfl⟩
 rintro x ⟨hx,hxe⟩ KL hN hE
 refine zrd cf0 ?_
 cases x with
 | nil =>
  simp (disch:=omega) [zz]
  refine hE _ _ (by simp) ?_
  have:Y6 c l=[]:=by rw[<-hxe];rfl
  simp (disch:=omega) [zz,Tryz.f198,this]
 | cons d m =>
  simp only[List.length_cons]at hx
  have h1:(0:Int)<(m.length:Int)+1:=by omega
  by_cases hd:d=c
  ·subst hd
   have hst:Y6 d (d::m)=Y6 d m:=by rw[Y6,if_pos rfl]
   simp (disch:=omega) [zz,h1]
   try (repeat with_reducible refine om ?_)
   refine hN _ m ?_ ⟨by omega,by rw[<-hxe,hst]⟩ (by simp)
   apply Le.of<;>simp[le9,z6]<;>try omega
  ·have hd':¬(d.toNat:Int)=c.toNat:=fun e=>hd (UInt8.toNat_inj.1 (by omega))
   have hst:Y6 c (d::m)=d::m:=by rw[Y6,if_neg hd]
   simp (disch:=omega) [zz,h1,hd']
   try (repeat with_reducible refine om ?_)
   refine hE _ _ (by simp) ?_
   simp (disch:=omega) [zz,Tryz.f198,<-hxe,hst]
theorem zlV (l:List UInt8) (hl:l.length<=1000000000):PC Tryz.prog 180 [.av .str (.s l),.av .str (.s [42])] (.av .str (.s (zdH 42 l))):=by
 refine zow Tryz.func180 cf0 fun imm0 w0=>?_
 by_cases h0:l=[]
 ·subst h0
  have:zdH 42 []=[]:=rfl
  simp (disch:=omega) [zz,Tryz.f180,this]
 ·have hr:=zbf (c:=42) (n:=l.length) (l:=l)
  simp (disch:=omega) [zz,h0]
  refine zcd (zc9 l 42 hl) ?_;(simp (disch:=first|omega|assumption) [zz])
  refine zcd (zdO (KO 42 l.length l) 42 (by omega)) ?_;(simp (disch:=first|omega|assumption) [zz,Tryz.f180,zdH])
def stV:Option (Nat × Nat)->Int × Int
 | none=>(-1,0)
 | some (st,a)=>(st,a)
def stM (n m:Nat):Option (Nat × Nat)->Nat
 | none=>n*(n+m+1)
 | some (_,a)=>(n-a)*(n+m+1)
theorem znY (p s:List UInt8) (hp:p.length<=1000000000) (hs:s.length<=1000000000):PC Tryz.prog 155 [.av .str (.s p),.av .str (.s s)] (.av .bool (.b (Z4 p s))):=by
 refine zow Tryz.func155 cf0 fun imm0 w0=>?_
 simp (disch:=omega) [zz]
 refine AT.loop' (α:=Nat × Nat × Option (Nat × Nat)) (fun x=>St.of [(0,.av .str (.s p)),(1,.av .str (.s s)),(5,.av (.int .i64) (.i .i64 x.1)),(6,.av (.int .i64) (.i .i64 x.2.1)),(7,.av (.int .i64) (.i .i64 (stV x.2.2).1)),(8,.av (.int .i64) (.i .i64 (stV x.2.2).2))] [] (fun _=>0) [])
  (fun x=>x.1<=p.length/\x.2.1<=s.length/\UL p s x.1 x.2.1 x.2.2) (fun x=>stM s.length p.length x.2.2+(s.length-x.2.1)+(p.length-x.1)) (0,0,none) ?_ ?_ ?_
 ·apply Le.of<;>simp[le9,stV]<;>try omega
 ·exact⟨by simp,by simp,.free (by simp)⟩
 rintro⟨i,k,o⟩ ⟨hi,hk,hO⟩ KL hN hE
 simp only at hi hk hO hN
 refine zrd cf0 ?_
 by_cases hks:k<s.length
 rotate_left
 ·have hks':¬(k:Int)<s.length:=by omega
  have hke:k=s.length:=by omega
  subst hke
  have hfin:=hO.fin
  rw[<-zi8]at hfin
  have hdl:(p.drop i).length<=1000000000:=by rw[List.length_drop];omega
  simp (disch:=omega) [zz,hks']
  refine hE _ _ (by simp) ?_
  simp (disch:=omega) [zz]
  (repeat with_reducible refine om ?_)
  refine qO (zlV (p.drop i) hdl) rfl rfl (by simp) (by simp[qR,coC,TV.er,AV.er]) ?_
  simp (disch:=omega) [zz,Tryz.f155,hfin]
 have hks':(k:Int)<s.length:=by omega
 have hd:s[k]?=some s[k]:=List.getElem?_eq_getElem hks
 obtain⟨d,hdd⟩:∃d,d=s[k]:=⟨_,rfl⟩
 have hsd:s[k]=d:=hdd.symm
 rw[<-hdd]at hd
  -- what happens where it doesn't go on
 have hno:∀(Q:zhC p s i k),True:=fun _=>trivial
 by_cases hip:i<p.length
 rotate_left
 ·have hip':¬(i:Int)<p.length:=by omega
  have hng:zhC p s i k:=⟨d,hd,.inl (by omega)⟩
  cases o with
  | none =>
   have hf:=hO.no hng
   simp (disch:=omega) [zz,hks',hip',stV]
   refine hE _ _ (by simp) ?_
   simp (disch:=omega) [zz,Tryz.f155,hf]
  | some sa =>
   obtain⟨st,a⟩:=sa
   have hb:=hO.back hng
   have ha:a<=k:=by cases hO;assumption
   have hst:st<p.length:=by cases hO with|star _ _ h1=>exact(List.getElem?_eq_some_iff.1 h1).1
   have h0:(0:Int)<=st:=by omega
   simp (disch:=omega) [zz,hks',hip',stV,h0]
   refine hN _ (st+1,a+1,some (st,a+1)) ?_ ⟨by simp only;omega,by simp only;omega,hb⟩ ?_
   ·apply Le.of<;>simp[le9,stV]<;>try omega
   ·simp only[stM]
    have e:s.length-a=(s.length-(a+1))+1:=by omega
    rw[e,Nat.succ_mul]
    omega
 have hip':(i:Int)<p.length:=by omega
 have hc:p[i]?=some p[i]:=List.getElem?_eq_getElem hip
 obtain⟨c,hcc⟩:∃c,c=p[i]:=⟨_,rfl⟩
 have hpc:p[i]=c:=hcc.symm
 rw[<-hcc]at hc
 by_cases h42:c=42
 ·subst h42
  have hn:=hO.toStar hk hc
  simp (disch:=omega) [zz,hks',hip',hpc]
  (repeat with_reducible refine om ?_)
  refine hN _ (i+1,k,some (i,k)) ?_ ⟨by omega,hk,hn⟩ ?_
  ·apply Le.of<;>simp[le9,stV]<;>try omega
  ·have:stM s.length p.length (some (i,k))<=stM s.length p.length o:=by
    cases o with
    | none=>simp only[stM];exact Nat.mul_le_mul_right _ (by omega)
    | some sa =>
     obtain⟨st,a⟩:=sa
     have ha:a<=k:=by cases hO;assumption
     simp only[stM];exact Nat.mul_le_mul_right _ (by omega)
   simp only
   omega
 have h42':¬(c.toNat:Int)=42:=by have:=za9 (n:=42) (by omega) h42;simpa using this
 by_cases hm:c=63\/c=d
 ·have hn:=hO.lit hc hd h42 hm
  have go:KL .normal=KL .normal:=rfl
  rcases Classical.em (c=63)with h63|h63
  ·subst h63
   simp (disch:=omega) [zz,hks',hip',hpc]
   (repeat with_reducible refine om ?_)
   refine hN _ (i+1,k+1,o) ?_ ⟨by simp only;omega,by simp only;omega,hn⟩ (by simp only;omega)
   apply Le.of<;>simp[le9,stV]<;>try omega
  ·have hcd:c=d:=hm.resolve_left h63
   subst hcd
   have h63':¬(c.toNat:Int)=63:=by have:=za9 (n:=63) (by omega) h63;simpa using this
   simp (disch:=omega) [zz,hks',hip',hpc,hsd,h42',h63']
   (repeat with_reducible refine om ?_)
   refine hN _ (i+1,k+1,o) ?_ ⟨by simp only;omega,by simp only;omega,hn⟩ (by simp only;omega)
   apply Le.of<;>simp[le9,stV]<;>try omega
 ·have h63:¬c=63:=fun e=>hm (.inl e)
  have hcd:¬c=d:=fun e=>hm (.inr e)
  have h63':¬(c.toNat:Int)=63:=by have:=za9 (n:=63) (by omega) h63;simpa using this
  have hcd':¬(c.toNat:Int)=d.toNat:=fun e=>hcd (UInt8.toNat_inj.1 (by omega))
  have hng:zhC p s i k:=⟨d,hd,.inr ⟨c,hc,h42,h63,hcd⟩⟩
  cases o with
  | none =>
   have hf:=hO.no hng
   simp (disch:=omega) [zz,hks',hip',hpc,hsd,h42',h63',hcd',stV]
   (repeat with_reducible refine om ?_)
   refine hE _ _ (by simp) ?_
   simp (disch:=omega) [zz,Tryz.f155,hf]
  | some sa =>
   obtain⟨st,a⟩:=sa
   have hb:=hO.back hng
   have ha:a<=k:=by cases hO;assumption
   have hst:st<p.length:=by cases hO with|star _ _ h1=>exact(List.getElem?_eq_some_iff.1 h1).1
   have h0:(0:Int)<=st:=by omega
   simp (disch:=omega) [zz,hks',hip',hpc,hsd,h42',h63',hcd',stV,h0]
   (repeat with_reducible refine om ?_)
   refine hN _ (st+1,a+1,some (st,a+1)) ?_ ⟨by simp only;omega,by simp only;omega,hb⟩ ?_
   ·apply Le.of<;>simp[le9,stV]<;>try omega
   ·simp only[stM]
    have e:s.length-a=(s.length-(a+1))+1:=by omega
    rw[e,Nat.succ_mul]
    omega
end
end Go.Proofs.YtdkieabmeiojjaaGreatDoor
