/- The program's SHA-256: a block's words. No condition beyond each theorem's own. -/
import Derived.Test.YtcioeonlclpacaaGreatDoorS0ToS2
set_option linter.unusedSimpArgs false
set_option linter.unusedVariables false
set_option linter.unusedSectionVars false
section
set_option maxRecDepth 100000
namespace Go.Proofs.YtcioeonlclpacaaGreatDoor
open Go Go.Ab
open Classical
variable [Sel]
@[simp] theorem zS3:qZ Tryz.prog 214=true:=by kernel_rfl
@[simp] theorem zT8:z8 Tryz.prog (.func 214)=false:=q9 zS3
def wX (b:List UInt8) (k:Nat):List UInt32:=Q1 b (k / 4)++(if k % 4=0 then [] else [match k % 4 with
 | 1=>b.getD (4*(k/4)) 0 |>.toUInt32
 | 2=>((b.getD (4*(k/4)) 0).toUInt32 <<< 8) ||| (b.getD (4*(k/4)+1) 0).toUInt32
 | _=>(((b.getD (4*(k/4)) 0).toUInt32 <<< 8) ||| (b.getD (4*(k/4)+1) 0).toUInt32) <<< 8 ||| (b.getD (4*(k/4)+2) 0).toUInt32])
def QI (w:List UInt32):List UInt32:=w++List.replicate (64-w.length) 0
theorem zaq {w:List UInt32} (h:w.length≤64):(QI w).length=64:=by simp[QI];omega
theorem CC (b:List UInt8):QI (wX b 0)=List.replicate 64 0:=by simp[wX,Q1,QI]
theorem CH (b:List UInt8) (k:Nat) (h:k<64):QI (wX b (k+1))=(QI (wX b k)).set (k/4) (((QI (wX b k)).getD (k/4) 0 <<< 8) ||| (b.getD k 0).toUInt32):=by
 obtain⟨q,r,rfl,hr⟩:∃q r,k=4*q+r∧r<4:=⟨k/4,k%4,by omega,by omega⟩
 have hq:(4*q+r)/4=q:=by omega
 have hm:(4*q+r)%4=r:=by omega
 have hlen:=YM b q
 have hrep:List.replicate (64-q) (0:UInt32)=0::List.replicate (64-(q+1)) 0:=by
  rw[show 64-q=(64-(q+1))+1 by omega,List.replicate_succ]
 rcases(by omega:r=0∨r=1∨r=2∨r=3)with rfl|rfl|rfl|rfl
 ·have h1:(4*q+0+1)/4=q:=by omega
  have h2:(4*q+0+1)%4=1:=by omega
  simp only[wX,hq,hm,h1,h2,QI,hlen,if_true,List.append_nil]
  simp[hlen,hrep,List.getElem?_append_right,List.set_append_right]
 ·have h1:(4*q+1+1)/4=q:=by omega
  have h2:(4*q+1+1)%4=2:=by omega
  simp only[wX,hq,hm,h1,h2,QI,hlen]
  simp[hlen,List.getElem?_append_right,List.set_append_right]
 ·have h1:(4*q+2+1)/4=q:=by omega
  have h2:(4*q+2+1)%4=3:=by omega
  simp only[wX,hq,hm,h1,h2,QI,hlen]
  simp[hlen,List.getElem?_append_right,List.set_append_right]
 ·have h1:(4*q+3+1)/4=q+1:=by omega
  have h2:(4*q+3+1)%4=0:=by omega
  have hw:=zbC (b.getD (4*q) 0) (b.getD (4*q+1) 0) (b.getD (4*q+2) 0) (b.getD (4*q+3) 0)
  simp only[UInt32.zero_shiftLeft,UInt32.zero_or]at hw
  simp only[wX,hq,hm,h1,h2,QI,hlen,Q1,if_pos (show q<16 by omega),zhT]
  simp[hlen,List.getElem?_append_right,List.set_append_right]
  simp only[List.getD_eq_getElem?_getD]at hw
  exact hw.symm
theorem zEu (b:List UInt8):wX b 64=Q1 b 16:=by simp[wX]
theorem zdV (b:List UInt8) (k:Nat) (h:k<64) (h16:16≤k):QI (Q1 b (k+1))=(QI (Q1 b k)).set k (zgk (Q1 b k)):=by
 have hlen:=YM b k
 have hrep:List.replicate (64-k) (0:UInt32)=0::List.replicate (64-(k+1)) 0:=by
  rw[show 64-k=(64-(k+1))+1 by omega,List.replicate_succ]
 simp only[QI,Q1,hlen,if_neg (show ¬k<16 by omega)]
 simp[hlen,hrep,List.set_append_right]
abbrev znG:Cfg:=⟨fun _=>false,fun n=>n==72⟩
theorem zox:w6 0=.i .u32 0:=rfl
set_option maxHeartbeats 4000000 in
theorem zau (b:List UInt8) (hb:b.length=64) :
  PC Tryz.prog 214 [.av (.slice 5) (QH b)] (.av (.arr 64 170) (.agg ((Q1 b 64).map w6))):=by
 have hbe:QH b=.sl .no (b.map fun b=>.i .u8 b.toNat):=rfl
 refine zow Tryz.func214 znG fun imm0 w0=>?_
 simp (disch:=omega) [zz,hbe,hb]
 refine AT.loopV (α:=Nat) (fun k ver=>St.of [(2,.loc 2 []),(3,.loc 3 []),(11,.av (.slice 5) (QH b)),(12,.av (.int .i64) (.i .i64 64)),(13,.av (.int .i64) (.i .i64 k))] [(2,(.arr 64 170,.agg (List.replicate 64 (.i .u32 0)))),(3,(.arr 64 170,.agg ((QI (wX b k)).map w6)))] ver [])
  (fun k=>k≤64) (fun k=>64-k) 0 ?_ ?_ ?_
 ·apply Le.of<;>simp[qU,qG,qO,qH,qP,qK,qF,qI,qJ,qN,CC,zox,hbe]<;>try omega
 ·simp
 ·rintro k ver hk KL hN hE
  refine qM (cf:=znG) laid mixed _ _ _ (by kernel_rfl) ?_
  by_cases hlt:k<64
  ·have hlt':(k:Int)<64:=by omega
   obtain⟨q,hq⟩:∃q:Nat,k / 4=q:=⟨_,rfl⟩
   have hq':(k:Int).tdiv 4=(q:Int):=by rw[Int.tdiv_eq_ediv_of_nonneg (by omega)];omega
   have hst:=CH b k hlt
   obtain⟨W,hW⟩:∃W,QI (wX b k)=W:=⟨_,rfl⟩
   have hWl:W.length=64:=by rw[←hW];exact zaq (by simp[wX];split<;>simp<;>omega)
   obtain⟨x,hx⟩:∃x,W[q]?=some x:=⟨_,List.getElem?_eq_getElem (by omega)⟩
   obtain⟨y,hy⟩:∃x,b[k]?=some x:=⟨_,List.getElem?_eq_getElem (by omega)⟩
   have gx:∀g:q<W.length,W[q]=x:=fun g=>by rw[List.getElem?_eq_getElem g]at hx;simpa using hx
   have gy:∀g:k<b.length,b[k]=y:=fun g=>by rw[List.getElem?_eq_getElem g]at hy;simpa using hy
   rw[hW,hq,List.getD_eq_getElem?_getD,List.getD_eq_getElem?_getD,hx,hy]at hst
   have hs8:=zp0 x (show 8<32 by omega)
   have hst':(QI (wX b (k+1))).map w6=(W.map w6).set q (w6 (x <<< UInt32.ofNat 8 ||| y.toUInt32)):=by rw[hst,List.map_set];rfl
   simp (disch:=omega) [zz,hlt',hq',hbe,hW,gx,gy,hs8,zoV,wor,-BitVec.toNat_or]
   (repeat with_reducible refine om ?_)
   refine hN _ (k+1) ?_ (by first|omega|(simp;done)|(simp;omega)) (by first|omega|(simp;done)|(simp;omega));apply Le.of<;>simp[qU,qG,qO,qH,qP,qK,qF,qI,qJ,qN,hst',hbe]<;>try omega
  ·obtain rfl:k=64:=by omega
   simp (disch:=omega) [zz]
   refine hE _ _ (by simp) ?_
   simp (disch:=omega) [zz]
   refine AT.loopV (α:=Nat) (fun k ver=>St.of [(2,.loc 2 []),(3,.loc 3 []),(6,.av (.int .i64) (.i .i64 k))] [(2,(.arr 64 170,.agg (List.replicate 64 (.i .u32 0)))),(3,(.arr 64 170,.agg ((QI (Q1 b k)).map w6)))] ver [])
    (fun k=>16≤k∧k≤64) (fun k=>64-k) 16 ?_ ?_ ?_
   ·apply Le.of<;>simp[qU,qG,qO,qH,qP,qK,qF,qI,qJ,qN,zEu]<;>try omega
   ·simp
   ·rintro k ver2 ⟨h16,hk⟩ KL2 hN2 hE2
    refine qM (cf:=znG) laid mixed _ _ _ (by kernel_rfl) ?_
    by_cases hkt:k<64
    ·obtain⟨m,rfl⟩:∃m,k=m+16:=⟨k-16,by omega⟩
     have hfs:=zdV b (m+16) hkt h16
     have hWl:=YM b (m+16)
     have hk':(m:Int)+16<64:=by omega
     obtain⟨W,hW⟩:∃W,Q1 b (m+16)=W:=⟨_,rfl⟩
     rw[hW]at hfs hWl
     obtain⟨F,hF⟩:∃F,QI W=F:=⟨_,rfl⟩
     have hFl:F.length=64:=by rw[←hF];exact zaq (by omega)
     have jM:∀i,i<m+16→F[i]?=W[i]?:=fun i hi=>by rw[←hF,QI,List.getElem?_append_left (by omega)]
     obtain⟨x16,h16e⟩:∃x,W[m]?=some x:=⟨_,List.getElem?_eq_getElem (by omega)⟩
     obtain⟨x15,h15e⟩:∃x,W[m+1]?=some x:=⟨_,List.getElem?_eq_getElem (by omega)⟩
     obtain⟨x7,h7e⟩:∃x,W[m+9]?=some x:=⟨_,List.getElem?_eq_getElem (by omega)⟩
     obtain⟨x2,h2e⟩:∃x,W[m+14]?=some x:=⟨_,List.getElem?_eq_getElem (by omega)⟩
     have g16:∀h:m<F.length,F[m]=x16:=fun h=>by have:=(jM m (by omega)).trans h16e;rw[List.getElem?_eq_getElem h]at this;simpa using this
     have g15:∀h:m+1<F.length,F[m+1]=x15:=fun h=>by have:=(jM (m+1) (by omega)).trans h15e;rw[List.getElem?_eq_getElem h]at this;simpa using this
     have g7:∀h:m+9<F.length,F[m+9]=x7:=fun h=>by have:=(jM (m+9) (by omega)).trans h7e;rw[List.getElem?_eq_getElem h]at this;simpa using this
     have g2:∀h:m+14<F.length,F[m+14]=x2:=fun h=>by have:=(jM (m+14) (by omega)).trans h2e;rw[List.getElem?_eq_getElem h]at this;simpa using this
     have w16:∀h:m<W.length,W[m]=x16:=fun h=>by rw[List.getElem?_eq_getElem h]at h16e;simpa using h16e
     have w15:∀h:m+1<W.length,W[m+1]=x15:=fun h=>by rw[List.getElem?_eq_getElem h]at h15e;simpa using h15e
     have w7:∀h:m+9<W.length,W[m+9]=x7:=fun h=>by rw[List.getElem?_eq_getElem h]at h7e;simpa using h7e
     have w2:∀h:m+14<W.length,W[m+14]=x2:=fun h=>by rw[List.getElem?_eq_getElem h]at h2e;simpa using h2e
     have hX:zgk W=x16+lo x15+x7+hi x2:=by simp[zgk,hWl,w16,w15,w7,w2]
     have hfs':(QI (Q1 b (m+17))).map w6=(F.map w6).set (m+16) (w6 (x16+lo x15+x7+hi x2)):=by rw[←hX,←hF,show m+17=m+16+1 by omega,hfs,List.map_set]
     simp (disch:=omega) [zz,hk',hW,hF,g15,g2]
     (repeat with_reducible refine om ?_)
     refine qL (kO x15 7 (by decide) (by decide)) rfl rfl (by simp) (by simp[qS,coC,TV.er,AV.er]) ?_
     simp (disch:=omega) [zz]
     refine qL (kO x15 18 (by decide) (by decide)) rfl rfl (by simp) (by simp[qS,coC,TV.er,AV.er]) ?_
     simp (disch:=omega) [zz,VI,uU,-BitVec.toNat_xor]
     refine qL (kO x2 17 (by decide) (by decide)) rfl rfl (by simp) (by simp[qS,coC,TV.er,AV.er]) ?_
     simp (disch:=omega) [zz]
     refine qL (kO x2 19 (by decide) (by decide)) rfl rfl (by simp) (by simp[qS,coC,TV.er,AV.er]) ?_
     simp (disch:=omega) [zz,VI,uU,UQ,g16,g7,-BitVec.toNat_xor]
     (repeat with_reducible refine om ?_)
     refine hN2 _ (m+17) ?_ (by omega) (by omega)
     apply Le.of<;>simp[qU,qG,qO,qH,qP,qK,qF,qI,qJ,qN,hfs',lo,hi]<;>try omega
    ·obtain rfl:k=64:=by omega
     simp (disch:=omega) [zz]
     refine hE2 _ _ (by simp) ?_
     have hf64:QI (Q1 b 64)=Q1 b 64:=by simp[QI]
     simp (disch:=omega) [zz,Tryz.f214,hf64]
     simp[AV.ers_eq,Function.comp_def,AV.er]
@[simp] theorem zA4:qZ Tryz.prog 189=true:=by kernel_rfl
@[simp] theorem zAH:z8 Tryz.prog (.func 189)=false:=q9 zA4
abbrev zgS:Cfg:=⟨fun _=>false,fun n=>n==112⟩
theorem zcw {s R C:List UInt32} {i:Nat} {x y:UInt32} (hC:C=List.zipWith (·+·) s R) (hs:s.length=8) (hR:R.length=8) (hi:i<8) (hx:s[i]?=some x) (hy:R[i]?=some y) :
  ((C.take i++s.drop i).map w6).set i (w6 (x+y))=(C.take (i+1)++s.drop (i+1)).map w6:=by
 have hCl:C.length=8:=by rw[hC];simp[hs,hR]
 have hCi:C[i]?=some (x+y):=by rw[hC];simp[List.getElem?_zipWith,hx,hy]
 have hd:s.drop i=x::s.drop (i+1):=by
  rw[←List.getElem_cons_drop (show i<s.length by omega)]
  rw[List.getElem?_eq_getElem (by omega)]at hx
  rw[Option.some.inj hx]
 rw[←List.map_set,List.take_add_one,hCi,hd]
 simp[List.set_append_right,hCl,Nat.min_eq_left (Nat.le_of_lt hi)]

set_option maxHeartbeats 4000000 in
theorem zkR (B:Nat) (s:List UInt32) (b:List UInt8) (hs:s.length=8) (hb:b.length=64) :
  q7 Tryz.prog 189 [.av .ptr (.ptr B (.arr 8 170) []),.av (.slice 5) (QH b)] [(B,.var (.arr 8 170) (.agg (s.map w6)))] fun r H'=>r=.tup []∧H'=[(B,.var (.arr 8 170) (.agg ((jR s b).map w6)))]:=by
 refine zov Tryz.func189 zgS fun imm0 w0=>?_
 simp (disch:=omega) [zz,zX]
 (repeat with_reducible refine om ?_)
 refine zcd (V4) ?_;(simp (disch:=first|omega|assumption) [zz,zX])
 (repeat with_reducible refine om ?_)
 refine qL (zau b hb) rfl rfl (by simp) (by simp[qS,TV.er]) ?_
 simp (disch:=omega) [zz,zX]
 refine AT.loopV (α:=Nat) (fun k ver=>St.of [(0,.av .ptr (.ptr B (.arr 8 170) [])),(4,.loc 4 []),(5,.loc 5 []),(19,.av (.arr 64 170) (.agg ((Q1 b 64).map w6))),(20,.av (.int .i64) (.i .i64 k))] [(4,(.arr 8 170,.agg ((rnd b s k).map w6))),(5,(.arr 64 170,.agg (k64.map w6)))] ver [(B,.var (.arr 8 170) (.agg (s.map w6)))])
  (fun k=>k≤64) (fun k=>64-k) 0 ?_ ?_ ?_
 ·apply Le.of<;>simp[qU,qG,qO,qH,qP,qK,qF,qI,qJ,qN,rnd,zX]<;>try omega
 ·simp
 ·rintro k ver hk KL hN hE
  refine qM (cf:=zgS) laid mixed _ _ _ (by kernel_rfl) ?_
  by_cases hlt:k<64
  ·have hlt':(k:Int)<64:=by omega
   obtain⟨v0,v1,v2,v3,v4,v5,v6,v7,hv⟩:=zjt (uE (b:=b) hs k)
   obtain⟨kk,hkk⟩:∃x,k64[k]?=some x:=⟨_,List.getElem?_eq_getElem (by simp[k64];omega)⟩
   obtain⟨ww,hww⟩:∃x,(Q1 b 64)[k]?=some x:=⟨_,List.getElem?_eq_getElem (by simp;omega)⟩
   have hR:rnd b s (k+1)=G8 [v0,v1,v2,v3,v4,v5,v6,v7] kk ww:=by rw[rnd,hv,hkk,hww];rfl
   have hkl:k64.length=64:=rfl
   have hwl:=YM b 64
   generalize k64=KK at *
   generalize Q1 b 64=W at *
   have gk:∀h:k<KK.length,KK[k]=kk:=fun h=>by rw[List.getElem?_eq_getElem h]at hkk;simpa using hkk
   have gw:∀h:k<W.length,W[k]=ww:=fun h=>by rw[List.getElem?_eq_getElem h]at hww;simpa using hww
   simp (disch:=omega) [zz,hlt',hv,gw,zX]
   (repeat with_reducible refine om ?_)
   refine zcd (kO v4 6 (by decide) (by decide)) ?_;(simp (disch:=first|omega|assumption) [zz,UQ,wor,VI,pL,pC,uU,-BitVec.toNat_or,-BitVec.toNat_xor,-BitVec.toNat_and])
   refine zcd (kO v4 11 (by decide) (by decide)) ?_;(simp (disch:=first|omega|assumption) [zz,UQ,wor,VI,pL,pC,uU,-BitVec.toNat_or,-BitVec.toNat_xor,-BitVec.toNat_and])
   refine zcd (kO v4 25 (by decide) (by decide)) ?_;(simp (disch:=first|omega|assumption) [zz,UQ,wor,VI,pL,pC,uU,-BitVec.toNat_or,-BitVec.toNat_xor,-BitVec.toNat_and,gk,gw])
   (repeat with_reducible refine om ?_)
   refine zcd (kO v0 2 (by decide) (by decide)) ?_;(simp (disch:=first|omega|assumption) [zz,UQ,wor,VI,pL,pC,uU,-BitVec.toNat_or,-BitVec.toNat_xor,-BitVec.toNat_and])
   refine zcd (kO v0 13 (by decide) (by decide)) ?_;(simp (disch:=first|omega|assumption) [zz,UQ,wor,VI,pL,pC,uU,-BitVec.toNat_or,-BitVec.toNat_xor,-BitVec.toNat_and])
   refine zcd (kO v0 22 (by decide) (by decide)) ?_;(simp (disch:=first|omega|assumption) [zz,UQ,wor,VI,pL,pC,uU,-BitVec.toNat_or,-BitVec.toNat_xor,-BitVec.toNat_and])
   (repeat with_reducible refine om ?_)
   refine hN _ (k+1) ?_ (by omega) (by omega)
   apply Le.of<;>simp[qU,qG,qO,qH,qP,qK,qF,qI,qJ,qN,hR,G8,zX]<;>try omega
  ·obtain rfl:k=64:=by omega
   simp (disch:=omega) [zz,zX]
   refine hE _ _ (by simp) ?_
   simp (disch:=omega) [zz,zX]
   refine AT.loopV (α:=Nat) (fun k ver=>St.of [(0,.av .ptr (.ptr B (.arr 8 170) [])),(99,.av (.arr 8 170) (.agg ((rnd b s 64).map w6))),(100,.av (.int .i64) (.i .i64 k))] [] ver [(B,.var (.arr 8 170) (.agg (((jR s b).take k++s.drop k).map w6)))])
    (fun k=>k≤8) (fun k=>8-k) 0 ?_ ?_ ?_
   ·apply Le.of<;>simp[qU,qG,qO,qH,qP,qK,qF,qI,qJ,qN,zX]<;>try omega
   ·simp
   ·rintro k ver2 hk KL2 hN2 hE2
    have hcl:=zJJ (b:=b) hs
    refine qM (cf:=zgS) laid mixed _ _ _ (by kernel_rfl) ?_
    by_cases hlt:k<8
    ·have hlt':(k:Int)<8:=by omega
     have hrl:=uE (b:=b) hs 64
     obtain⟨x,hx⟩:∃x,s[k]?=some x:=⟨_,List.getElem?_eq_getElem (by omega)⟩
     obtain⟨y,hy⟩:∃x,(rnd b s 64)[k]?=some x:=⟨_,List.getElem?_eq_getElem (by omega)⟩
     have hsq:=zcw (C:=jR s b) rfl hs hrl hlt hx hy
     have hg:(((jR s b).take k++s.drop k).map w6)[k]?=some (w6 x):=by
      rw[List.getElem?_map,List.getElem?_append_right (by rw[List.length_take];omega),List.getElem?_drop]
      simp[hcl,Nat.min_eq_left (Nat.le_of_lt hlt),hx]
     have hll:(((jR s b).take k++s.drop k).map w6).length=8:=by simp[hcl,hs];omega
     generalize ((jR s b).take k++s.drop k).map w6=Z at *
     generalize rnd b s 64=R at *
     have gy:∀g:k<R.length,R[k]=y:=fun g=>by rw[List.getElem?_eq_getElem g]at hy;simpa using hy
     have gz:∀g:k<Z.length,Z[k]=w6 x:=fun g=>by rw[List.getElem?_eq_getElem g]at hg;simpa using hg
     simp (disch:=omega) [zz,hlt',gy,gz,hll,UQ,zX]
     (repeat with_reducible refine om ?_)
     refine hN2 _ (k+1) ?_ (by omega) (by omega)
     rw[List.map_append,List.map_take,List.map_drop]at hsq
     apply Le.of<;>simp[qU,qG,qO,qH,qP,qK,qF,qI,qJ,qN,hsq,zX]<;>try omega
    ·obtain rfl:k=8:=by omega
     have e1:(jR s b).take 8++s.drop 8=jR s b:=by rw[List.take_of_length_le (by omega),List.drop_of_length_le (by omega),List.append_nil]
     simp (disch:=omega) [zz,zX]
     refine hE2 _ _ (by simp) ?_
     simp (disch:=omega) [zz,Tryz.f189,zX]
     try (rw[←List.map_take,←List.map_drop,←List.map_append,e1])
     try simp[AV.erks_eq,Function.comp_def,AV.erk,zX]

set_option maxHeartbeats 4000000 in
theorem zk1 (B:Nat) (s:List UInt32) (b:List UInt8) (hs:s.length=8) (hb:b.length=64) {op nn:AV} (hop:op.erk=op) (hnn:nn.erk=nn) :
  q7 Tryz.prog 189 [.av .ptr (.ptr B (qD Tryz.prog 263) [0]),.av (.slice 5) (QH b)] [(B,.var (qD Tryz.prog 263) (.agg [.agg (s.map w6),op,nn]))] fun r H'=>r=.tup []∧H'=[(B,.var (qD Tryz.prog 263) (.agg [.agg ((jR s b).map w6),op,nn]))]:=by
 refine zov Tryz.func189 zgS fun imm0 w0=>?_
 simp (disch:=omega) [zz,hop,hnn]
 (repeat with_reducible refine om ?_)
 refine zcd (V4) ?_;(simp (disch:=first|omega|assumption) [zz,hop,hnn])
 (repeat with_reducible refine om ?_)
 refine qL (zau b hb) rfl rfl (by simp) (by simp[qS,TV.er]) ?_
 simp (disch:=omega) [zz,hop,hnn]
 refine AT.loopV (α:=Nat) (fun k ver=>St.of [(0,.av .ptr (.ptr B (qD Tryz.prog 263) [0])),(4,.loc 4 []),(5,.loc 5 []),(19,.av (.arr 64 170) (.agg ((Q1 b 64).map w6))),(20,.av (.int .i64) (.i .i64 k))] [(4,(.arr 8 170,.agg ((rnd b s k).map w6))),(5,(.arr 64 170,.agg (k64.map w6)))] ver [(B,.var (qD Tryz.prog 263) (.agg [.agg (s.map w6),op,nn]))])
  (fun k=>k≤64) (fun k=>64-k) 0 ?_ ?_ ?_
 ·apply Le.of<;>simp[qU,qG,qO,qH,qP,qK,qF,qI,qJ,qN,rnd,hop,hnn]<;>try omega
 ·simp
 ·rintro k ver hk KL hN hE
  refine qM (cf:=zgS) laid mixed _ _ _ (by kernel_rfl) ?_
  by_cases hlt:k<64
  ·have hlt':(k:Int)<64:=by omega
   obtain⟨v0,v1,v2,v3,v4,v5,v6,v7,hv⟩:=zjt (uE (b:=b) hs k)
   obtain⟨kk,hkk⟩:∃x,k64[k]?=some x:=⟨_,List.getElem?_eq_getElem (by simp[k64];omega)⟩
   obtain⟨ww,hww⟩:∃x,(Q1 b 64)[k]?=some x:=⟨_,List.getElem?_eq_getElem (by simp;omega)⟩
   have hR:rnd b s (k+1)=G8 [v0,v1,v2,v3,v4,v5,v6,v7] kk ww:=by rw[rnd,hv,hkk,hww];rfl
   have hkl:k64.length=64:=rfl
   have hwl:=YM b 64
   generalize k64=KK at *
   generalize Q1 b 64=W at *
   have gk:∀h:k<KK.length,KK[k]=kk:=fun h=>by rw[List.getElem?_eq_getElem h]at hkk;simpa using hkk
   have gw:∀h:k<W.length,W[k]=ww:=fun h=>by rw[List.getElem?_eq_getElem h]at hww;simpa using hww
   simp (disch:=omega) [zz,hlt',hv,gw,hop,hnn]
   (repeat with_reducible refine om ?_)
   refine zcd (kO v4 6 (by decide) (by decide)) ?_;(simp (disch:=first|omega|assumption) [zz,UQ,wor,VI,pL,pC,uU,-BitVec.toNat_or,-BitVec.toNat_xor,-BitVec.toNat_and])
   refine zcd (kO v4 11 (by decide) (by decide)) ?_;(simp (disch:=first|omega|assumption) [zz,UQ,wor,VI,pL,pC,uU,-BitVec.toNat_or,-BitVec.toNat_xor,-BitVec.toNat_and])
   refine zcd (kO v4 25 (by decide) (by decide)) ?_;(simp (disch:=first|omega|assumption) [zz,UQ,wor,VI,pL,pC,uU,-BitVec.toNat_or,-BitVec.toNat_xor,-BitVec.toNat_and,gk,gw])
   (repeat with_reducible refine om ?_)
   refine zcd (kO v0 2 (by decide) (by decide)) ?_;(simp (disch:=first|omega|assumption) [zz,UQ,wor,VI,pL,pC,uU,-BitVec.toNat_or,-BitVec.toNat_xor,-BitVec.toNat_and])
   refine zcd (kO v0 13 (by decide) (by decide)) ?_;(simp (disch:=first|omega|assumption) [zz,UQ,wor,VI,pL,pC,uU,-BitVec.toNat_or,-BitVec.toNat_xor,-BitVec.toNat_and])
   refine zcd (kO v0 22 (by decide) (by decide)) ?_;(simp (disch:=first|omega|assumption) [zz,UQ,wor,VI,pL,pC,uU,-BitVec.toNat_or,-BitVec.toNat_xor,-BitVec.toNat_and])
   (repeat with_reducible refine om ?_)
   refine hN _ (k+1) ?_ (by omega) (by omega)
   apply Le.of<;>simp[qU,qG,qO,qH,qP,qK,qF,qI,qJ,qN,hR,G8,hop,hnn]<;>try omega
  ·obtain rfl:k=64:=by omega
   simp (disch:=omega) [zz,hop,hnn]
   refine hE _ _ (by simp) ?_
   simp (disch:=omega) [zz,hop,hnn]
   refine AT.loopV (α:=Nat) (fun k ver=>St.of [(0,.av .ptr (.ptr B (qD Tryz.prog 263) [0])),(99,.av (.arr 8 170) (.agg ((rnd b s 64).map w6))),(100,.av (.int .i64) (.i .i64 k))] [] ver [(B,.var (qD Tryz.prog 263) (.agg [.agg (((jR s b).take k++s.drop k).map w6),op,nn]))])
    (fun k=>k≤8) (fun k=>8-k) 0 ?_ ?_ ?_
   ·apply Le.of<;>simp[qU,qG,qO,qH,qP,qK,qF,qI,qJ,qN,hop,hnn]<;>try omega
   ·simp
   ·rintro k ver2 hk KL2 hN2 hE2
    have hcl:=zJJ (b:=b) hs
    refine qM (cf:=zgS) laid mixed _ _ _ (by kernel_rfl) ?_
    by_cases hlt:k<8
    ·have hlt':(k:Int)<8:=by omega
     have hrl:=uE (b:=b) hs 64
     obtain⟨x,hx⟩:∃x,s[k]?=some x:=⟨_,List.getElem?_eq_getElem (by omega)⟩
     obtain⟨y,hy⟩:∃x,(rnd b s 64)[k]?=some x:=⟨_,List.getElem?_eq_getElem (by omega)⟩
     have hsq:=zcw (C:=jR s b) rfl hs hrl hlt hx hy
     have hg:(((jR s b).take k++s.drop k).map w6)[k]?=some (w6 x):=by
      rw[List.getElem?_map,List.getElem?_append_right (by rw[List.length_take];omega),List.getElem?_drop]
      simp[hcl,Nat.min_eq_left (Nat.le_of_lt hlt),hx]
     have hll:(((jR s b).take k++s.drop k).map w6).length=8:=by simp[hcl,hs];omega
     generalize ((jR s b).take k++s.drop k).map w6=Z at *
     generalize rnd b s 64=R at *
     have gy:∀g:k<R.length,R[k]=y:=fun g=>by rw[List.getElem?_eq_getElem g]at hy;simpa using hy
     have gz:∀g:k<Z.length,Z[k]=w6 x:=fun g=>by rw[List.getElem?_eq_getElem g]at hg;simpa using hg
     simp (disch:=omega) [zz,hlt',gy,gz,hll,UQ,hop,hnn]
     (repeat with_reducible refine om ?_)
     refine hN2 _ (k+1) ?_ (by omega) (by omega)
     rw[List.map_append,List.map_take,List.map_drop]at hsq
     apply Le.of<;>simp[qU,qG,qO,qH,qP,qK,qF,qI,qJ,qN,hsq,hop,hnn]<;>try omega
    ·obtain rfl:k=8:=by omega
     have e1:(jR s b).take 8++s.drop 8=jR s b:=by rw[List.take_of_length_le (by omega),List.drop_of_length_le (by omega),List.append_nil]
     simp (disch:=omega) [zz,hop,hnn]
     refine hE2 _ _ (by simp) ?_
     simp (disch:=omega) [zz,Tryz.f189,hop,hnn]
     try (rw[←List.map_take,←List.map_drop,←List.map_append,e1])
     try simp[AV.erks_eq,Function.comp_def,AV.erk,hop,hnn]
end Go.Proofs.YtcioeonlclpacaaGreatDoor
end
