/- The document's SHA-256: a block. No condition beyond each theorem's own. -/
import Derived.Test.YtooipdkilgpojaaGreatDoorRW2ToS1
set_option linter.unusedSimpArgs false
set_option linter.unusedVariables false
set_option linter.unusedSectionVars false
section
set_option maxRecDepth 100000
namespace Go.Proofs.YtooipdkilgpojaaGreatDoor
open Go Go.Ab
open Classical
variable [Sel]
@[simp] theorem zkS:qZ Tryz.prog 107=true:=by kernel_rfl
@[simp] theorem zqo:z8 Tryz.prog (.func 107)=false:=q9 zkS
def lo (x:UInt32):UInt32:=XD x 7 ^^^ XD x 18 ^^^ x >>> UInt32.ofNat 3
def hi (x:UInt32):UInt32:=XD x 17 ^^^ XD x 19 ^^^ x >>> UInt32.ofNat 10
def zgk (w:List UInt32):UInt32:=w[w.length-16]?.getD 0+lo (w[w.length-15]?.getD 0)+w[w.length-7]?.getD 0+hi (w[w.length-2]?.getD 0)
def zhT (b:List UInt8) (n:Nat):UInt32:=zf4 (b.getD (4*n) 0) (b.getD (4*n+1) 0) (b.getD (4*n+2) 0) (b.getD (4*n+3) 0)
def Q1 (b:List UInt8):Nat→List UInt32
 | 0=>[]
 | n+1=>Q1 b n++[if n<16 then zhT b n else zgk (Q1 b n)]
@[simp] theorem YM (b:List UInt8) (n:Nat):(Q1 b n).length=n:=by
 induction n with
 | zero=>rfl
 | succ n ih=>simp[Q1,ih]
def G8:List UInt32→UInt32→UInt32→List UInt32
 | [v0,v1,v2,v3,v4,v5,v6,v7],k,w =>
  [v7+(XD v4 6 ^^^ XD v4 11 ^^^ XD v4 25)+(v4 &&& v5 ^^^ ~~~v4 &&& v6)+k+w+((XD v0 2 ^^^ XD v0 13 ^^^ XD v0 22)+(v0 &&& v1 ^^^ v0 &&& v2 ^^^ v1 &&& v2)),v0,v1,v2,
   v3+(v7+(XD v4 6 ^^^ XD v4 11 ^^^ XD v4 25)+(v4 &&& v5 ^^^ ~~~v4 &&& v6)+k+w),v4,v5,v6]
 | _,_,_=>[]
def rnd (b:List UInt8) (v:List UInt32):Nat→List UInt32
 | 0=>v
 | n+1=>G8 (rnd b v n) (k64[n]?.getD 0) ((Q1 b 64)[n]?.getD 0)
theorem zjt {l:List UInt32} (h:l.length=8):∃v0 v1 v2 v3 v4 v5 v6 v7,l=[v0,v1,v2,v3,v4,v5,v6,v7]:=by
 match l,h with
 | [v0,v1,v2,v3,v4,v5,v6,v7],_=>exact⟨v0,v1,v2,v3,v4,v5,v6,v7,rfl⟩
theorem uE {b:List UInt8} {v:List UInt32} (h:v.length=8):∀n,(rnd b v n).length=8
 | 0=>h
 | n+1=>by
  obtain⟨v0,v1,v2,v3,v4,v5,v6,v7,e⟩:=zjt (uE (b:=b) h n)
  simp[rnd,e,G8]
def jR (h:List UInt32) (b:List UInt8):List UInt32:=List.zipWith (·+·) h (rnd b h 64)
theorem KJ {b:List UInt8} {v:List UInt32} (h:v.length=8):(jR v b).length=8:=by
 simp[jR,h,uE h]

theorem zul {b:List UInt8} {i:Nat} (h:4*i+4≤b.length):(b.take (4*i+4)).drop (4*i)=[b.getD (4*i) 0,b.getD (4*i+1) 0,b.getD (4*i+2) 0,b.getD (4*i+3) 0]:=by
 apply List.ext_getElem
 ·simp;omega
 ·intro n h1 h2
  simp at h1 h2
  have:n=0∨n=1∨n=2∨n=3:=by omega
  rcases this with rfl|rfl|rfl|rfl<;>simp[List.getElem?_eq_getElem,show 4*i<b.length by omega,show 4*i+1<b.length by omega,show 4*i+2<b.length by omega,show 4*i+3<b.length by omega]

set_option maxHeartbeats 4000000 in
theorem zDO (h:List UInt32) (b:List UInt8) (hh:h.length=8) (hb:b.length=64) :
  PC Tryz.prog 107 [.av (.slice 174) (.sl .no (h.map w6)),.av (.slice 5) (X1 b)] (.av (.slice 174) (.sl .no ((jR h b).map w6))):=by
 refine PC.of <| q7.of_vc laid mixed Tryz.func107 rfl cf0 (by kernel_rfl) (by simp[Tryz.ntmps107]) fun imm0 w0=>?_
 simp[wB]
 refine qL zEr rfl rfl (by simp) (by simp[qS]) ?_
 simp[wB]
 have hbe:X1 b=.sl .no (b.map fun b=>.i .u8 b.toNat):=rfl
 refine AT.loop' (α:=Nat × Nat × (Nat→Nat)) (fun k=>St.of [(0,.av (.slice 174) (.sl .no (h.map w6))),(1,.av (.slice 5) (X1 b)),(5,.av (.slice 174) (.sl .no (k64.map w6))),(6,.av (.slice 174) (.sl (.own k.2.1 (k.2.2 k.2.1)) ((Q1 b k.1).map w6))),(7,.av (.int .i64) (.i .i64 k.1))] [] k.2.2 [])
  (fun k=>k.1≤64) (fun k=>64-k.1) (0,6,fun _=>0) ?_ ?_ ?_
 ·refine Le.of ?_ ?_ ?_ ?_ ?_<;>simp[qU,qG,qO,qH,qP,qK,qF,qI,qJ,qN,Q1]<;>try omega
 ·simp
 ·rintro⟨k,tk,ver⟩ hk KL hN hE
  simp only at hk hN
  refine qM (cf:=cf0) laid mixed _ _ _ (by kernel_rfl) ?_
  by_cases hlt:k<64
  ·have hlt':(k:Int)<64:=by omega
   by_cases h16:k<16
   ·have h16':(k:Int)<16:=by omega
    obtain⟨b0,e0⟩:∃x,b.getD (4*k) 0=x:=⟨_,rfl⟩
    obtain⟨b1,e1⟩:∃x,b.getD (4*k+1) 0=x:=⟨_,rfl⟩
    obtain⟨b2,e2⟩:∃x,b.getD (4*k+2) 0=x:=⟨_,rfl⟩
    obtain⟨b3,e3⟩:∃x,b.getD (4*k+3) 0=x:=⟨_,rfl⟩
    have hwa:zhT b k=zf4 b0 b1 b2 b3:=by simp only[zhT,e0,e1,e2,e3]
    have h4:List.drop (4*k) (List.take (4*k+4) (b.map fun b=>AV.i .u8 b.toNat))=[b0,b1,b2,b3].map fun b=>AV.i .u8 b.toNat:=by
     rw[←List.map_take,←List.map_drop,zul (by omega),e0,e1,e2,e3]
    (simp (disch:=first|omega|assumption) [zz,wB,hlt',h16',hbe,h4])
    (repeat with_reducible refine om ?_)
    refine qL (zDW b0 b1 b2 b3) rfl rfl (by simp) (by simp[qS,X1,TV.er,AV.er,AV.ers]) ?_
    (simp (disch:=first|omega|assumption) [zz,wB])
    (repeat with_reducible refine om ?_)
    refine hN _ (k+1,36,upd (upd ver tk (ver tk+1)) 36 (ver 36+1)) ?_ (by simp;omega) (by simp;omega)
    refine Le.of ?_ ?_ ?_ ?_ ?_<;>simp[qU,qG,qO,qH,qP,qK,qF,qI,qJ,qN,Q1,h16,hwa,hbe]<;>try omega
   ·obtain⟨m,rfl⟩:∃m,k=m+16:=⟨k-16,by omega⟩
    obtain⟨x16,h16e⟩:∃x,(Q1 b (m+16))[m]?=some x:=⟨_,List.getElem?_eq_getElem (by simp)⟩
    obtain⟨x15,h15e⟩:∃x,(Q1 b (m+16))[m+1]?=some x:=⟨_,List.getElem?_eq_getElem (by simp)⟩
    obtain⟨x7,h7e⟩:∃x,(Q1 b (m+16))[m+9]?=some x:=⟨_,List.getElem?_eq_getElem (by simp)⟩
    obtain⟨x2,h2e⟩:∃x,(Q1 b (m+16))[m+14]?=some x:=⟨_,List.getElem?_eq_getElem (by simp)⟩
    have hm':(m:Int)+16<64:=by omega
    have hn':¬(m:Int)+16<16:=by omega
    have hW:Q1 b (m+16+1)=Q1 b (m+16)++[zgk (Q1 b (m+16))]:=by rw[Q1,if_neg (by omega)]
    have hWl:=YM b (m+16)
    generalize Q1 b (m+16)=W at *
    have g16:∀h:m<W.length,W[m]=x16:=fun h=>by have:=h16e;rw[List.getElem?_eq_getElem h]at this;simpa using this
    have g15:∀h:m+1<W.length,W[m+1]=x15:=fun h=>by have:=h15e;rw[List.getElem?_eq_getElem h]at this;simpa using this
    have g7:∀h:m+9<W.length,W[m+9]=x7:=fun h=>by have:=h7e;rw[List.getElem?_eq_getElem h]at this;simpa using this
    have g2:∀h:m+14<W.length,W[m+14]=x2:=fun h=>by have:=h2e;rw[List.getElem?_eq_getElem h]at this;simpa using this
    have hX:zgk W=x16+lo x15+x7+hi x2:=by simp[zgk,hWl,g16,g15,g7,g2]
    (simp (disch:=first|omega|assumption) [zz,wB,hm',hn',g16,g15,g7,g2])
    (repeat with_reducible refine om ?_)
    refine jC (zCV x15 7 (by decide) (by decide)) rfl rfl (by simp) (by simp[qS,coC,TV.er,AV.er]) ?_;(simp (disch:=first|omega|assumption) [zz,UQ,wor,VI,pL,pC,uU,wB,-BitVec.toNat_or,-BitVec.toNat_xor,-BitVec.toNat_and])
    (repeat with_reducible refine om ?_)
    refine jC (zCV x15 18 (by decide) (by decide)) rfl rfl (by simp) (by simp[qS,coC,TV.er,AV.er]) ?_;(simp (disch:=first|omega|assumption) [zz,UQ,wor,VI,pL,pC,uU,wB,-BitVec.toNat_or,-BitVec.toNat_xor,-BitVec.toNat_and,g7])
    (repeat with_reducible refine om ?_)
    refine jC (zCV x2 17 (by decide) (by decide)) rfl rfl (by simp) (by simp[qS,coC,TV.er,AV.er]) ?_;(simp (disch:=first|omega|assumption) [zz,UQ,wor,VI,pL,pC,uU,wB,-BitVec.toNat_or,-BitVec.toNat_xor,-BitVec.toNat_and])
    (repeat with_reducible refine om ?_)
    refine jC (zCV x2 19 (by decide) (by decide)) rfl rfl (by simp) (by simp[qS,coC,TV.er,AV.er]) ?_;(simp (disch:=first|omega|assumption) [zz,UQ,wor,VI,pL,pC,uU,wB,-BitVec.toNat_or,-BitVec.toNat_xor,-BitVec.toNat_and])
    (repeat with_reducible refine om ?_)
    refine hN _ (m+17,78,upd (upd ver tk (ver tk+1)) 78 (ver 78+1)) ?_ (by simp;omega) (by simp;omega)
    refine Le.of ?_ ?_ ?_ ?_ ?_<;>simp[qU,qG,qO,qH,qP,qK,qF,qI,qJ,qN,hW,hX,lo,hi]<;>try omega
  ·obtain rfl:k=64:=by omega
   (simp (disch:=first|omega|assumption) [zz])
   refine hE _ _ (by simp) ?_
   (simp (disch:=first|omega|assumption) [zz,wB,hh])
   refine AT.loop' (α:=Nat × Nat × (Nat→Nat)) (fun k=>St.of [(0,.av (.slice 174) (.sl .no (h.map w6))),(5,.av (.slice 174) (.sl .no (k64.map w6))),(6,.av (.slice 174) (.sl .no ((Q1 b 64).map w6))),(10,.av (.slice 174) (.sl (.own k.2.1 (k.2.2 k.2.1)) ((rnd b h k.1).map w6))),(11,.av (.int .i64) (.i .i64 k.1))] [] k.2.2 [])
    (fun k=>k.1≤64) (fun k=>64-k.1) (0,81,upd ver 81 (ver 81+1)) ?_ ?_ ?_
   ·refine Le.of ?_ ?_ ?_ ?_ ?_<;>simp[qU,qG,qO,qH,qP,qK,qF,qI,qJ,qN,rnd]<;>try omega
   ·simp
   ·rintro⟨k,tl,ver2⟩ hk KL2 hN2 hE2
    simp only at hk hN2
    refine qM (cf:=cf0) laid mixed _ _ _ (by kernel_rfl) ?_
    by_cases hlt:k<64
    ·have hlt':(k:Int)<64:=by omega
     obtain⟨v0,v1,v2,v3,v4,v5,v6,v7,hv⟩:=zjt (uE (b:=b) hh k)
     obtain⟨kk,hkk⟩:∃x,k64[k]?=some x:=⟨_,List.getElem?_eq_getElem (by simp[k64];omega)⟩
     obtain⟨ww,hww⟩:∃x,(Q1 b 64)[k]?=some x:=⟨_,List.getElem?_eq_getElem (by simp;omega)⟩
     have hR:rnd b h (k+1)=G8 [v0,v1,v2,v3,v4,v5,v6,v7] kk ww:=by rw[rnd,hv,hkk,hww];rfl
     have hkl:k64.length=64:=rfl
     have hwl:=YM b 64
     generalize k64=KK at *
     generalize Q1 b 64=W at *
     have gk:∀h:k<KK.length,KK[k]=kk:=fun h=>by rw[List.getElem?_eq_getElem h]at hkk;simpa using hkk
     have gw:∀h:k<W.length,W[k]=ww:=fun h=>by rw[List.getElem?_eq_getElem h]at hww;simpa using hww
     (simp (disch:=first|omega|assumption) [zz,hlt',hv])
     refine jC (zCV v4 6 (by decide) (by decide)) rfl rfl (by simp) (by simp[qS,coC,TV.er,AV.er]) ?_;(simp (disch:=first|omega|assumption) [zz,UQ,wor,VI,pL,pC,uU,wB,-BitVec.toNat_or,-BitVec.toNat_xor,-BitVec.toNat_and])
     refine jC (zCV v4 11 (by decide) (by decide)) rfl rfl (by simp) (by simp[qS,coC,TV.er,AV.er]) ?_;(simp (disch:=first|omega|assumption) [zz,UQ,wor,VI,pL,pC,uU,wB,-BitVec.toNat_or,-BitVec.toNat_xor,-BitVec.toNat_and])
     refine jC (zCV v4 25 (by decide) (by decide)) rfl rfl (by simp) (by simp[qS,coC,TV.er,AV.er]) ?_;(simp (disch:=first|omega|assumption) [zz,UQ,wor,VI,pL,pC,uU,wB,-BitVec.toNat_or,-BitVec.toNat_xor,-BitVec.toNat_and,gk,gw])
     (repeat with_reducible refine om ?_)
     refine jC (zCV v0 2 (by decide) (by decide)) rfl rfl (by simp) (by simp[qS,coC,TV.er,AV.er]) ?_;(simp (disch:=first|omega|assumption) [zz,UQ,wor,VI,pL,pC,uU,wB,-BitVec.toNat_or,-BitVec.toNat_xor,-BitVec.toNat_and])
     refine jC (zCV v0 13 (by decide) (by decide)) rfl rfl (by simp) (by simp[qS,coC,TV.er,AV.er]) ?_;(simp (disch:=first|omega|assumption) [zz,UQ,wor,VI,pL,pC,uU,wB,-BitVec.toNat_or,-BitVec.toNat_xor,-BitVec.toNat_and])
     refine jC (zCV v0 22 (by decide) (by decide)) rfl rfl (by simp) (by simp[qS,coC,TV.er,AV.er]) ?_;(simp (disch:=first|omega|assumption) [zz,UQ,wor,VI,pL,pC,uU,wB,-BitVec.toNat_or,-BitVec.toNat_xor,-BitVec.toNat_and])
     (repeat with_reducible refine om ?_)
     refine hN2 _ (k+1,10,ver2) ?_ (by simp;omega) (by simp;omega)
     refine Le.of ?_ ?_ ?_ ?_ ?_<;>simp[qU,qG,qO,qH,qP,qK,qF,qI,qJ,qN,hR,G8]<;>try omega
    ·obtain rfl:k=64:=by omega
     (simp (disch:=first|omega|assumption) [zz])
     refine hE2 _ _ (by simp) ?_
     (simp (disch:=first|omega|assumption) [zz,wB,hh])
     refine AT.loop' (α:=Nat × Nat × (Nat→Nat)) (fun k=>St.of [(0,.av (.slice 174) (.sl .no (h.map w6))),(10,.av (.slice 174) (.sl .no ((rnd b h 64).map w6))),(16,.av (.slice 174) (.sl (.own k.2.1 (k.2.2 k.2.1)) (((jR h b).take k.1).map w6))),(17,.av (.int .i64) (.i .i64 k.1))] [] k.2.2 [])
      (fun k=>k.1≤8) (fun k=>8-k.1) (0,16,ver2) ?_ ?_ ?_
     ·refine Le.of ?_ ?_ ?_ ?_ ?_<;>simp[qU,qG,qO,qH,qP,qK,qF,qI,qJ,qN]<;>try omega
     ·simp
     ·rintro⟨k,tm,ver3⟩ hk KL3 hN3 hE3
      simp only at hk hN3
      have hcl:=KJ (b:=b) hh
      refine qM (cf:=cf0) laid mixed _ _ _ (by kernel_rfl) ?_
      by_cases hlt:k<8
      ·have hlt':(k:Int)<8:=by omega
       obtain⟨x,hx⟩:∃x,h[k]?=some x:=⟨_,List.getElem?_eq_getElem (by omega)⟩
       have hrl:=uE (b:=b) hh 64
       obtain⟨y,hy⟩:∃x,(rnd b h 64)[k]?=some x:=⟨_,List.getElem?_eq_getElem (by omega)⟩
       have hC:(jR h b).take (k+1)=(jR h b).take k++[x+y]:=by
        rw[List.take_add_one]
        congr 1
        simp[jR,List.getElem?_zipWith,hx,hy]
       have hC':List.take (k+1) (List.map w6 (jR h b))=List.take k (List.map w6 (jR h b))++[w6 (x+y)]:=by
        rw[←List.map_take,hC,List.map_append,List.map_take];rfl
       have gx:∀g:k<h.length,h[k]=x:=fun g=>by rw[List.getElem?_eq_getElem g]at hx;simpa using hx
       generalize rnd b h 64=R at *
       have gy:∀g:k<R.length,R[k]=y:=fun g=>by rw[List.getElem?_eq_getElem g]at hy;simpa using hy
       (simp (disch:=first|omega|assumption) [zz,hlt',gx,gy,UQ,wB,hcl])
       (repeat with_reducible refine om ?_)
       refine hN3 _ (k+1,194,upd (upd ver3 tm (ver3 tm+1)) 194 (ver3 194+1)) ?_ (by simp;omega) (by simp;omega)
       refine Le.of ?_ ?_ ?_ ?_ ?_<;>simp[qU,qG,qO,qH,qP,qK,qF,qI,qJ,qN,hC']<;>try omega
      ·obtain rfl:k=8:=by omega
       (simp (disch:=first|omega|assumption) [zz])
       refine hE3 _ _ (by simp) ?_
       (simp (disch:=first|omega|assumption) [zz,Tryz.f107])
       rw[List.take_of_length_le (by simp[hcl])]
       simp[AV.ers_eq,Function.comp_def,AV.er]
@[simp] theorem zko:qZ Tryz.prog 106=true:=by kernel_rfl
@[simp] theorem zqt:z8 Tryz.prog (.func 106)=false:=q9 zko
@[simp] theorem zoy:qZ Tryz.prog 63=true:=by kernel_rfl
@[simp] theorem zrF:z8 Tryz.prog (.func 63)=false:=q9 zoy
abbrev K3 (b:UInt8):AV:=.i .u8 b.toNat
def xD (n:Nat):Nat:=(55+64-n % 64) % 64
theorem zba (n:Nat):(n+1+xD n) % 64=56:=by unfold xD;omega
theorem zgX {n k:Nat} (h:k<xD n):(n+1+k) % 64≠56:=by unfold xD at h;omega
theorem zm1 (n:Nat):xD n<64:=by unfold xD;omega
def W9 (n:Nat):List UInt8:=[UInt8.ofNat (n*8 / 2 ^ 56),UInt8.ofNat (n*8 / 2 ^ 48),UInt8.ofNat (n*8 / 2 ^ 40),UInt8.ofNat (n*8 / 2 ^ 32),UInt8.ofNat (n*8 / 2 ^ 24),UInt8.ofNat (n*8 / 2 ^ 16),UInt8.ofNat (n*8 / 2 ^ 8),UInt8.ofNat (n*8)]
def K2 (l:List UInt8):List UInt8:=l++[128]++List.replicate (xD l.length) 0++W9 l.length
theorem zeC (l:List UInt8):(K2 l).length % 64=0:=by
 have:=zba l.length
 simp[K2,W9];omega
theorem zDR (l:List UInt8):(K2 l).length≤l.length+80:=by
 have:=zm1 l.length
 simp[K2,W9];omega

theorem zhj (N:Nat):∀j,j<8→(W9 N).take (8-j)=(W9 N).take (7-j)++[UInt8.ofNat (N*8 / 2 ^ (8*j))]
 | 0,_=>by simp[W9]|1,_=>by simp[W9]|2,_=>by simp[W9]|3,_=>by simp[W9]|4,_=>by simp[W9]|5,_=>by simp[W9]|6,_=>by simp[W9]|7,_=>by simp[W9]
 | j+8,h=>by omega
theorem znm (m:Nat):IntKind.u8.wrap (m:Int)=((UInt8.ofNat m).toNat:Int):=by
 simp[IntKind.wrap,IntKind.signed,IntKind.bits]
theorem zei {n:Int} (h0:0≤n) (h1:n<18446744073709551616):IntKind.u64.wrap n=n:=by
 simp[IntKind.wrap,IntKind.signed,IntKind.bits];omega
theorem zpG (n k:Nat) (h:k<64):((n:Int)).fdiv (2 ^ (min k IntKind.u64.bits))=((n / 2 ^ k:Nat):Int):=by
 rw[show min k IntKind.u64.bits=k by simp[IntKind.bits];omega,Int.fdiv_eq_ediv_of_nonneg _ (Int.le_of_lt (Int.pow_pos (by omega)))]
 norm_cast
theorem zdJ:K3 128=.i .u8 128:=rfl
theorem zbY:K3 0=.i .u8 0:=rfl
set_option maxHeartbeats 1000000 in
theorem zDT (l:List UInt8) (hl:l.length≤1000000000000):PC Tryz.prog 106 [.av .str (.s l)] (.av (.slice 5) (X1 (K2 l))):=by
 have hp:=zm1 l.length
 refine PC.of <| q7.of_vc laid mixed Tryz.func106 rfl cf0 (by kernel_rfl) (by simp[Tryz.ntmps106]) fun imm0 w0=>?_
 (simp (disch:=first|omega|assumption) [zz,wB])
 (repeat with_reducible refine om ?_)
 refine AT.loopV (α:=Nat × Nat) (fun k ver=>St.of [(0,.av .str (.s l)),(3,.av (.slice 5) (.sl (.own k.2 (ver k.2)) ((l++[128]++List.replicate k.1 0).map K3)))] [] ver [])
  (fun k=>k.1≤xD l.length) (fun k=>xD l.length-k.1) (0,10) ?h0 ?h1 ?h2
 case h0=>refine Le.of ?_ ?_ ?_ ?_ ?_<;>simp[qU,qG,qO,qH,qP,qK,qF,qI,qJ,qN,zdJ]<;>try omega
 case h1=>simp
 case h2 =>
  rintro⟨k,tk⟩ ver hk KL hN hE
  simp only at hk hN
  refine qM (cf:=cf0) laid mixed _ _ _ (by kernel_rfl) ?_
  have hlen:((l.length:Int)+((k:Int)+1)).tmod 64=(((l.length+1+k) % 64:Nat):Int):=by
   rw[Int.tmod_eq_emod_of_nonneg (by omega)];omega
  by_cases hkt:k<xD l.length
  ·have hne:=zgX hkt
   have hne':¬((l.length:Int)+((k:Int)+1)).tmod 64=56:=by rw[hlen];omega
   (simp (disch:=first|omega|assumption) [zz,wB,hne'])
   (repeat with_reducible refine om ?_)
   refine hN _ (k+1,17) ?_ (by first|omega|(simp;done)|(simp;omega)) (by first|omega|(simp;done)|(simp;omega));refine Le.of ?_ ?_ ?_ ?_ ?_<;>simp[qU,qG,qO,qH,qP,qK,qF,qI,qJ,qN,List.replicate_succ',zbY,zdJ]<;>try omega
  ·have hke:k=xD l.length:=by omega
   subst hke
   have hsp:=zba l.length
   have hne':((l.length:Int)+((xD l.length:Int)+1)).tmod 64=56:=by rw[hlen];omega
   (simp (disch:=first|omega|assumption) [zz,hne'])
   refine hE _ _ (by simp) ?_
   (simp (disch:=first|omega|assumption) [zz,zei])
   refine AT.loopV (α:=Nat × Nat) (fun k ver=>St.of [(3,.av (.slice 5) (.sl (.own k.2 (ver k.2)) ((l++[128]++List.replicate (xD l.length) 0++(W9 l.length).take (8-k.1)).map K3))),(4,.av (.int .u64) (.i .u64 ((l.length*8:Nat):Int))),(5,.av (.int .i64) (.i .i64 ((k.1:Int)-1)))] [] ver [])
    (fun k=>k.1≤8) (fun k=>k.1) (8,tk) ?g0 ?g1 ?g2
   case g0=>refine Le.of ?_ ?_ ?_ ?_ ?_<;>simp[qU,qG,qO,qH,qP,qK,qF,qI,qJ,qN]<;>try omega
   case g1=>simp
   case g2 =>
    rintro⟨j,tk2⟩ ver2 hj KL2 hN2 hE2
    simp only at hj hN2
    refine qM (cf:=cf0) laid mixed _ _ _ (by kernel_rfl) ?_
    cases j with
    | zero =>
     (simp (disch:=first|omega|assumption) [zz])
     refine hE2 _ _ (by simp) ?_
     (simp (disch:=first|omega|assumption) [zz,Tryz.f106])
     rw[show (List.map K3 l++K3 128::(List.replicate (xD l.length) (K3 0)++List.take 8 (List.map K3 (W9 l.length))))=(K2 l).map K3 by simp[K2,W9]]
     simp[X1,AV.ers_eq,AV.er,Function.comp_def]
    | succ j =>
     have hlb:(W9 l.length).length=8:=rfl
     have hst:=zhj l.length j (by omega)
     have e3:=zpG (l.length*8) (8*j) (by omega)
     have hst':((W9 l.length).map K3).take (8-j)=((W9 l.length).map K3).take (7-j)++[K3 (UInt8.ofNat (l.length*8 / 2 ^ (8*j)))]:=by
      rw[←List.map_take,hst,List.map_append,List.map_take];rfl
     have e8:=znm (l.length*8 / 2 ^ (8*j))
     simp at e8
     have hge:(0:Int)≤(j:Int):=by omega
     push_cast at e3
     (simp (disch:=first|omega|assumption) [zz,wB,e3,znm,hge])
     (repeat with_reducible refine om ?_)
     refine hN2 _ (j,33) ?_ (by first|omega|(simp;done)|(simp;omega)) (by first|omega|(simp;done)|(simp;omega));refine Le.of ?_ ?_ ?_ ?_ ?_<;>simp[qU,qG,qO,qH,qP,qK,qF,qI,qJ,qN,hst',e8]<;>try omega

def QA (t:List UInt8):Nat→List UInt32
 | 0=>h8
 | n+1=>jR (QA t n) ((t.drop (64*n)).take 64)
theorem gT (t:List UInt8):∀n,(QA t n).length=8
 | 0=>rfl
 | n+1=>KJ (gT t n)
def WM (h:List UInt32):List UInt8:=(List.range 32).map fun i=>(h.getD (i/4) 0 >>> UInt32.ofNat (24-8*(i%4))).toUInt8
def sha (l:List UInt8):List UInt8:=WM (QA (K2 l) ((K2 l).length / 64))
theorem zdN (h:List UInt32):(WM h).length=32:=by simp[WM]
theorem zmR (d:List UInt8):KW d=.agg (d.map K3):=rfl

set_option maxHeartbeats 1000000 in
theorem zEi (l:List UInt8) (hl:l.length≤1000000000000):PC Tryz.prog 63 [.av .str (.s l)] (.av (qD Tryz.prog 69) (KW (sha l))):=by
 obtain⟨t,ht⟩:∃t,K2 l=t:=⟨_,rfl⟩
 have htl:t.length≤1000000000080:=by have:=zDR l;rw[ht]at this;omega
 have htm:t.length % 64=0:=by have:=zeC l;rw[ht]at this;omega
 obtain⟨M,hM⟩:∃M,t.length=64*M:=⟨t.length / 64,by omega⟩
 have hbe:X1 t=.sl .no (t.map fun b=>.i .u8 b.toNat):=rfl
 refine PC.of <| q7.of_vc laid mixed Tryz.func63 rfl cf0 (by kernel_rfl) (by simp[Tryz.ntmps63]) fun imm0 w0=>?_
 (simp (disch:=first|omega|assumption) [zz])
 refine qL (zDT l hl) rfl rfl (by simp) (by simp[qS,TV.er,AV.er]) ?_
 rw[ht]
 (simp (disch:=first|omega|assumption) [zz])
 refine AT.loopV (α:=Nat) (fun k ver=>St.of [(2,.loc 2 []),(3,.av (.slice 174) (.sl .no ((QA t k).map w6))),(4,.av (.slice 5) (X1 t)),(5,.av (.int .i64) (.i .i64 (64*k:Nat)))] [(2,(qD Tryz.prog 69,.agg (List.replicate 32 (.i .u8 0))))] ver [])
  (fun k=>64*k≤t.length) (fun k=>M-k) 0 ?_ ?_ ?_
 ·refine Le.of ?_ ?_ ?_ ?_ ?_<;>simp[qU,qG,qO,qH,qP,qK,qF,qI,qJ,qN,QA,h8,wi]<;>try omega
 ·simp
 ·rintro k ver hk KL hN hE
  have hkl:=gT t k
  refine qM (cf:=cf0) laid mixed _ _ _ (by kernel_rfl) ?_
  by_cases hlt:64*k<t.length
  ·have e1:List.drop (64*k) (List.take (64*k+64) t)=(t.drop (64*k)).take 64:=by rw[List.drop_take];congr 1;omega
   have hlt':64*(k:Int)<t.length:=by omega
   (simp (disch:=first|omega|assumption) [zz,hbe,hlt'])
   (repeat with_reducible refine om ?_)
   refine qL (zDO (QA t k) ((t.drop (64*k)).take 64) hkl (by simp;omega)) rfl rfl (by simp) ?_ ?_
   ·simp[qS,TV.er,AV.er,AV.ers_eq,Function.comp_def,X1,List.drop_take]
   ·(simp (disch:=first|omega|assumption) [zz])
    refine hN _ (k+1) ?_ (by first|omega|(simp;done)|(simp;omega)) (by first|omega|(simp;done)|(simp;omega));refine Le.of ?_ ?_ ?_ ?_ ?_<;>simp[qU,qG,qO,qH,qP,qK,qF,qI,qJ,qN,QA,hbe]<;>try omega
  ·obtain rfl:k=M:=by omega
   have hlt':¬64*(k:Int)<t.length:=by omega
   (simp (disch:=first|omega|assumption) [zz,hbe,hlt'])
   refine hE _ _ (by simp) ?_
   (simp (disch:=first|omega|assumption) [zz])
   have hdk:(K2 l).length / 64=k:=by rw[ht,hM];omega
   have hsha:sha l=WM (QA t k):=by rw[sha,hdk,ht]
   obtain⟨D,hD⟩:∃D,WM (QA t k)=D:=⟨_,rfl⟩
   have hDl:D.length=32:=by rw[←hD];exact zdN _
   refine AT.loopV (α:=Nat) (fun j ver=>St.of [(2,.loc 2 []),(3,.av (.slice 174) (.sl .no ((QA t k).map w6))),(6,.loc 6 []),(7,.av (.int .i64) (.i .i64 j))] [(2,(qD Tryz.prog 69,.agg (List.replicate 32 (.i .u8 0)))),(6,(qD Tryz.prog 69,.agg ((D.take j++List.replicate (32-j) 0).map K3)))] ver [])
    (fun j=>j≤32) (fun j=>32-j) 0 ?_ ?_ ?_
   ·refine Le.of ?_ ?_ ?_ ?_ ?_<;>simp[qU,qG,qO,qH,qP,qK,qF,qI,qJ,qN,zbY]<;>try omega
   ·simp
   ·rintro j ver2 hj KL2 hN2 hE2
    refine qM (cf:=cf0) laid mixed _ _ _ (by kernel_rfl) ?_
    by_cases hjt:j<32
    ·obtain⟨q,hq⟩:∃q:Nat,j / 4=q:=⟨_,rfl⟩
     obtain⟨r,hr⟩:∃r:Nat,j % 4=r:=⟨_,rfl⟩
     have hq':(j:Int).tdiv 4=(q:Int):=by rw[Int.tdiv_eq_ediv_of_nonneg (by omega)];omega
     have hr':(j:Int).tmod 4=(r:Int):=by rw[Int.tmod_eq_emod_of_nonneg (by omega)];omega
     have hjt':(j:Int)<32:=by omega
     obtain⟨x,hx⟩:∃x,(QA t k)[q]?=some x:=⟨_,List.getElem?_eq_getElem (by omega)⟩
     have hDj:D[j]?=some (x >>> UInt32.ofNat (24-8*r)).toUInt8:=by
      rw[←hD]
      simp[WM,hjt,hq,hr,hx]
     have j1:((D.take j++List.replicate (32-j) 0).map K3).set j (K3 (x >>> UInt32.ofNat (24-8*r)).toUInt8)=(D.take (j+1)++List.replicate (32-(j+1)) 0).map K3:=by
      rw[←List.map_set,List.take_add_one,hDj,show 32-j=(32-(j+1))+1 by omega,List.replicate_succ]
      simp[List.set_append_right,hDl,Nat.min_eq_left (Nat.le_of_lt hjt)]
     generalize QA t k=H at *
     have hy:=zrH (x >>> UInt32.ofNat (24-8*r))
     generalize (x >>> UInt32.ofNat (24-8*r)).toUInt8=y at *
     have gx:∀g:q<H.length,H[q]=x:=fun g=>by rw[List.getElem?_eq_getElem g]at hx;simpa using hx
     (simp (disch:=first|omega|assumption) [zz,hjt',hq',hr',gx,uU,hy])
     (repeat with_reducible refine om ?_)
     simp only[List.map_append,List.map_take,List.map_replicate,zbY]at j1
     refine hN2 _ (j+1) ?_ (by first|omega|(simp;done)|(simp;omega)) (by first|omega|(simp;done)|(simp;omega));refine Le.of ?_ ?_ ?_ ?_ ?_<;>simp[qU,qG,qO,qH,qP,qK,qF,qI,qJ,qN,j1,zbY]<;>try omega
    ·obtain rfl:j=32:=by omega
     (simp (disch:=first|omega|assumption) [zz])
     refine hE2 _ _ (by simp) ?_
     (simp (disch:=first|omega|assumption) [zz,Tryz.f63])
     rw[hsha,hD,zmR,List.take_of_length_le (by simp[hDl])]
     simp[AV.ers_eq,Function.comp_def,AV.er]
end Go.Proofs.YtooipdkilgpojaaGreatDoor
end
section
set_option maxRecDepth 100000
namespace Go.Proofs.YtooipdkilgpojaaGreatDoor
open Go Go.Ab
open Classical
variable [Sel] [SelPow] [SelMax]
structure BoxV where
 run:RunV
 outs:List Txt
 may:Txt→Bool
 wrote:List (Txt × Txt)
 reads:List XF
 asks:Txt
 over:Bool
 why:Int
def J9 (k:KnV):XF:=⟨k.path,k.is,if k.is=true then sha k.data else zc4⟩
def QM (e:Int) (b:BoxV):BoxV:={ b with over:=true,why:=e }
def JA (p d:Txt) (b:BoxV):BoxV :=
 if p∈b.wrote.map (·.1)∨p∉b.outs then QM 14 b else { b with wrote:=b.wrote++[(p,d)] }
def YU (b:BoxV):Bool:=b.outs.any fun p=>decide (p∉b.wrote.map (·.1))
noncomputable def roundB (b:BoxV):BoxV × Bool :=
 let d:=(w9 b.run).1
 let b':={ b with run:=(w9 b.run).2 }
 if d.kind=1 then(if b.may d.path=true then({ b' with asks:=d.path },true) else(QM 13 b',false))
 else if d.kind=2 then(JA d.path d.data b',false)
 else if d.kind=3 then(if YU b=true then(QM 14 b',false) else({ b' with over:=true },false))
 else(QM d.why b',false)
noncomputable def goN:Nat→BoxV→Option BoxV
 | 0,_=>none
 | n+1,b=>if b.over=true then some b else if (roundB b).2=true then some (roundB b).1 else goN n (roundB b).1
noncomputable def yQ (b:BoxV):BoxV:=(goN (ccR b.run+2) b).getD b
noncomputable def kB (k:KnV) (b:BoxV):Int × BoxV :=
 if b.over=true then(19,b) else if k.path≠b.asks then(1,b) else if k.is=true∧65536<k.data.length then(6,b)
 else(0,yQ { b with reads:=b.reads++[J9 k],run:=(QB k b.run).2 })
noncomputable def ZH (b:BoxV):List U1:=(kK (b.wrote.map (·.1))).map fun p=>⟨p,((b.wrote.find? fun x=>decide (x.1=p)).getD ([],[])).2⟩
noncomputable def yD (b:BoxV):zcy × Bool :=
 if b.over=false then(⟨0,0,[],[]⟩,false)
 else if b.why=0 then(⟨1,0,ZH b,b.reads⟩,true)
 else(⟨2,b.why,[],b.reads⟩,true)
def pdW (d:DoV):Txt × Txt:=(d.path,d.data)
structure zhg (env:List (Txt × Txt)) (c0:CfV) (kn:List KnV) (outs:List Txt) (may:Txt→Bool) (wr:List DoV) (b:BoxV):Prop where
 at_:AtR env c0 kn wr b.run
 no2:b.run.over.kind≠2
 wrote:b.wrote=wr.map pdW
 nod:(wr.map (·.path)).Nodup
 own:∀w∈wr,w.path∈outs
 outs:b.outs=outs
 may:b.may=may
 reads:b.reads=kn.map J9
 over:b.over=false
 why:b.why=0
inductive zf6 (env:List (Txt × Txt)) (c0:CfV) (kn:List KnV) (outs:List Txt) (may:Txt→Bool) (wr:List DoV) (b:BoxV):Prop
 | waits (d:DoV):JB env c0 kn wr b.run d→d.kind=1→may d.path=true→b.run.waits=true→b.asks=d.path→b.asks=b.run.asks→b.over=false→b.why=0→zf6 env c0 kn outs may wr b
 | read (d:DoV):JB env c0 kn wr b.run d→d.kind=1→may d.path=false→b.over=true→b.why=13→zf6 env c0 kn outs may wr b
 | ended (d:DoV):JB env c0 kn wr b.run d→d.kind=3→(∀p∈outs,p∈wr.map (·.path))→b.over=true→b.why=0→zf6 env c0 kn outs may wr b
 | short (d:DoV):JB env c0 kn wr b.run d→d.kind=3→¬(∀p∈outs,p∈wr.map (·.path))→b.over=true→b.why=14→zf6 env c0 kn outs may wr b
 | failed (d:DoV):JB env c0 kn wr b.run d→d.kind=4→d.why≠0→b.over=true→b.why=d.why→zf6 env c0 kn outs may wr b
 | wrote (d:DoV):AtR env c0 kn (wr++[d]) b.run→(d.path∈wr.map (·.path)∨d.path∉outs)→b.over=true→b.why=14→zf6 env c0 kn outs may wr b
structure WY (env:List (Txt × Txt)) (c0:CfV) (kn:List KnV) (outs:List Txt) (may:Txt→Bool) (wr:List DoV) (b:BoxV):Prop where
 e:zf6 env c0 kn outs may wr b
 wrote:b.wrote=wr.map pdW
 nod:(wr.map (·.path)).Nodup
 own:∀w∈wr,w.path∈outs
 outs:b.outs=outs
 may:b.may=may
 reads:b.reads=kn.map J9
theorem GC {wr:List DoV} {l:List (Txt × Txt)} (h:l=wr.map pdW):l.map (·.1)=wr.map (·.path):=by
 subst h;simp[pdW,Function.comp_def]
theorem JB.ov {env:List (Txt × Txt)} {c0:CfV} {kn:List KnV} {wr:List DoV} {r:RunV} {d:DoV} (h:JB env c0 kn wr r d):d.kind=1∧r.waits=true∧d.path=r.asks∨d.kind=3∧d=⟨3,[],[],0⟩∨d.kind=4∧d.why≠0:=by
 by_cases hw:r.waits=true
 ·exact .inl ⟨h.waits.2 hw,hw,by rw[h.asks hw]⟩
 ·have hw':r.waits=false:=by simpa using hw
  have hd:=h.over hw'
  have hst:=h.stops
  have hk0:r.over.kind≠0:=by
   unfold kL at hst
   simpa[hw']using hst
  rcases h.at_.ov.1 with h1|⟨h1,_⟩|h1|⟨h1,h2⟩
  ·rw[h1]at hk0;exact absurd rfl hk0
  ·exact absurd h1 h.no2
  ·exact .inr (.inl ⟨by rw[hd,h1],by rw[hd,h1]⟩)
  ·exact .inr (.inr ⟨by rw[hd];exact h1,by rw[hd];exact h2⟩)
theorem zin {env:List (Txt × Txt)} {c0:CfV} {kn:List KnV} {outs:List Txt} {may:Txt→Bool} {wr:List DoV} {b:BoxV} (h:zhg env c0 kn outs may wr b) :
  (∃d,zhg env c0 kn outs may (wr++[d]) (roundB b).1∧(roundB b).2=false∧ccR (roundB b).1.run<ccR b.run)∨(WY env c0 kn outs may wr (roundB b).1∧((roundB b).2=true∨(roundB b).1.over=true)):=by
 have hwp:=GC h.wrote
 obtain⟨d,hd⟩:∃d,d=(w9 b.run).1:=⟨_,rfl⟩
 obtain⟨r',hr'⟩:∃r',r'=(w9 b.run).2:=⟨_,rfl⟩
 have hn:=h.at_.next h.no2
 rw[←hd,←hr']at hn
 unfold roundB
 simp only[←hd,←hr']
 rcases hn with⟨h1,h2,h3,h4⟩|hs
 ·rw[if_neg (by rw[h1];decide),if_pos h1]
  unfold JA
  simp only[hwp,h.outs]
  by_cases hb:d.path∈wr.map (·.path)∨d.path∉outs
  ·rw[if_pos hb]
   right
   exact⟨⟨.wrote d h2 hb rfl rfl,h.wrote,h.nod,h.own,rfl,h.may,h.reads⟩,.inr rfl⟩
  ·rw[if_neg hb]
   left
   have hb1:d.path∉wr.map (·.path):=fun e=>hb (.inl e)
   have hb2:d.path∈outs:=Classical.byContradiction fun e=>hb (.inr e)
   refine⟨d,⟨h2,by rw[h4];decide,by simp only[h.wrote,List.map_append];rfl,?_,?_,rfl,h.may,h.reads,h.over,h.why⟩,trivial,h3⟩
   ·rw[List.map_append]
    refine List.nodup_append.2 ⟨h.nod,by simp,fun a ha c hc=>?_⟩
    simp only[List.map_cons,List.map_nil,List.mem_singleton]at hc
    subst hc
    intro e
    exact hb1 (e▸ha)
   ·intro w hw
    rcases List.mem_append.1 hw with hw|hw
    ·exact h.own w hw
    ·rw[List.mem_singleton.1 hw];exact hb2
 ·right
  rcases hs.ov with⟨h1,h2,h3⟩|⟨h1,h2⟩|⟨h1,h2⟩
  ·rw[if_pos h1,h.may]
   by_cases hm:may d.path=true
   ·rw[if_pos hm]
    exact⟨⟨.waits d hs h1 hm h2 rfl h3 h.over h.why,h.wrote,h.nod,h.own,h.outs,rfl,h.reads⟩,.inl rfl⟩
   ·rw[if_neg hm]
    exact⟨⟨.read d hs h1 (by simpa using hm) rfl rfl,h.wrote,h.nod,h.own,h.outs,rfl,h.reads⟩,.inr rfl⟩
  ·rw[if_neg (by rw[h1];decide),if_neg (by rw[h1];decide),if_pos h1]
   have hl:YU b=true↔¬∀p∈outs,p∈wr.map (·.path):=by
    unfold YU
    rw[hwp,h.outs]
    simp
   by_cases hm:YU b=true
   ·rw[if_pos hm]
    exact⟨⟨.short d hs h1 (hl.1 hm) rfl rfl,h.wrote,h.nod,h.own,h.outs,h.may,h.reads⟩,.inr rfl⟩
   ·rw[if_neg hm]
    exact⟨⟨.ended d hs h1 (Classical.byContradiction fun e=>hm (hl.2 e)) rfl h.why,h.wrote,h.nod,h.own,h.outs,h.may,h.reads⟩,.inr rfl⟩
  ·rw[if_neg (by rw[h1];decide),if_neg (by rw[h1];decide),if_neg (by rw[h1];decide)]
   exact⟨⟨.failed d hs h1 h2 rfl rfl,h.wrote,h.nod,h.own,h.outs,h.may,h.reads⟩,.inr rfl⟩
theorem znb {env:List (Txt × Txt)} {c0:CfV} {kn:List KnV} {outs:List Txt} {may:Txt→Bool}:∀(n:Nat) {wr:List DoV} {b:BoxV},zhg env c0 kn outs may wr b→ccR b.run<n→∃b' m,goN (n+1) b=some b'∧WY env c0 kn outs may (wr++m) b'
 | 0,_,_,_,h=>absurd h (Nat.not_lt_zero _)
 | n+1,wr,b,h,hc=>by
  rw[goN,if_neg (by rw[h.over];decide)]
  rcases zin h with⟨d,h1,h2,h3⟩|⟨h1,h2⟩
  ·rw[if_neg (by rw[h2];decide)]
   obtain⟨b',m,h4,h5⟩:=znb n h1 (by omega)
   exact⟨b',d::m,h4,by rw[List.append_assoc]at h5;exact h5⟩
  ·by_cases h3:(roundB b).2=true
   ·rw[if_pos h3];exact⟨_,[],rfl,by rw[List.append_nil];exact h1⟩
   ·rw[if_neg h3,goN,if_pos (h2.resolve_left h3)]
    exact⟨_,[],rfl,by rw[List.append_nil];exact h1⟩
theorem V7 {env:List (Txt × Txt)} {c0:CfV} {kn:List KnV} {outs:List Txt} {may:Txt→Bool} {wr:List DoV} {b:BoxV} (h:zhg env c0 kn outs may wr b):goN (ccR b.run+2) b=some (yQ b)∧∃m,WY env c0 kn outs may (wr++m) (yQ b):=by
 obtain⟨b',m,h1,h2⟩:=znb (ccR b.run+1) h (by omega)
 have:yQ b=b':=by unfold yQ;rw[h1];rfl
 rw[this]
 exact⟨h1,m,h2⟩
theorem WY.tell {env:List (Txt × Txt)} {c0:CfV} {kn:List KnV} {outs:List Txt} {may:Txt→Bool} {wr:List DoV} {b:BoxV} (h:WY env c0 kn outs may wr b) (ho:b.over=false) (k:KnV) (hp:k.path=b.asks) (hd:k.is=true→k.data.length≤65536) :
  zhg env c0 (kn++[k]) outs may wr { b with reads:=b.reads++[J9 k],run:=(QB k b.run).2 }∧(QB k b.run).1=0:=by
 cases h.e with
 | waits d hs h1 hm hw ha ha2 h3 h4 =>
  obtain⟨g1,g2,g3,_⟩:=hs.give k hw (hp.trans ha2) hd
  exact⟨⟨g2,by rw[show (BoxV.run _).over=(QB k b.run).2.over from rfl,g3];decide,h.wrote,h.nod,h.own,h.outs,h.may,by simp only[h.reads,List.map_append];rfl,h3,h4⟩,g1⟩
 | read d _ _ _ h3 _=>rw[h3]at ho;cases ho
 | ended d _ _ _ h3 _=>rw[h3]at ho;cases ho
 | short d _ _ _ h3 _=>rw[h3]at ho;cases ho
 | failed d _ _ _ h3 _=>rw[h3]at ho;cases ho
 | wrote d _ _ h3 _=>rw[h3]at ho;cases ho
theorem AtR.s {env:List (Txt × Txt)} {c0:CfV} {kn:List KnV} {wr:List DoV} {r:RunV} (h:AtR env c0 kn wr r):kn.length≤500:=by
 have hk:r.known.length≤500:=by
  rcases h.inv with⟨g,_⟩|⟨_,_,_,_,g,_⟩
  ·exact g.nk
  ·exact g.nk
 rw[h.kno]at hk;exact hk
theorem WY.len {env:List (Txt × Txt)} {c0:CfV} {kn:List KnV} {outs:List Txt} {may:Txt→Bool} {wr:List DoV} {b:BoxV} (h:WY env c0 kn outs may wr b):kn.length≤500:=by
 cases h.e with
 | waits d hs=>exact hs.at_.s
 | read d hs=>exact hs.at_.s
 | ended d hs=>exact hs.at_.s
 | short d hs=>exact hs.at_.s
 | failed d hs=>exact hs.at_.s
 | wrote d hs=>exact hs.s
theorem WY.asks {env:List (Txt × Txt)} {c0:CfV} {kn:List KnV} {outs:List Txt} {may:Txt→Bool} {wr:List DoV} {b:BoxV} (h:WY env c0 kn outs may wr b) (ho:b.over=false):may b.asks=true∧zQ kn b.asks=none∧b.why=0:=by
 cases h.e with
 | waits d hs h1 hm hw ha ha2 h3 h4 =>
  refine⟨by rw[ha];exact hm,?_,h4⟩
  rcases hs.at_.inv with⟨_,h2⟩|⟨l,k,p,e,g2,g3,g4,_⟩
  ·rw[hw]at h2;cases h2
  ·obtain⟨q1,q2,_⟩:=g4 hw
   rw[ha2,q1,←hs.at_.kno];exact q2
 | read d _ _ _ h3 _=>rw[h3]at ho;cases ho
 | ended d _ _ _ h3 _=>rw[h3]at ho;cases ho
 | short d _ _ _ h3 _=>rw[h3]at ho;cases ho
 | failed d _ _ _ h3 _=>rw[h3]at ho;cases ho
 | wrote d _ _ h3 _=>rw[h3]at ho;cases ho
theorem WY.give {env:List (Txt × Txt)} {c0:CfV} {kn:List KnV} {outs:List Txt} {may:Txt→Bool} {wr:List DoV} {b:BoxV} (h:WY env c0 kn outs may wr b) (ho:b.over=false) (k:KnV) (hp:k.path=b.asks) (hd:k.is=true→k.data.length≤65536) :
  (kB k b).1=0∧∃m,WY env c0 (kn++[k]) outs may (wr++m) (kB k b).2:=by
 have h1:=(h.tell ho k hp hd).1
 unfold kB
 rw[if_neg (by rw[ho];decide),if_neg (by simp[hp]),if_neg (fun h=>by have:=hd h.1;omega)]
 exact⟨rfl,(V7 h1).2⟩
structure zeF (known kn:List KnV) (may:Txt→Bool):Prop where
 each:∀k∈kn,zQ known k.path=some k
 nod:(kn.map (·.path)).Nodup
 may:∀k∈kn,may k.path=true
theorem WY.out {env:List (Txt × Txt)} {c0:CfV} {kn:List KnV} {outs:List Txt} {may:Txt→Bool} {wr:List DoV} {b:BoxV} (h:WY env c0 kn outs may wr b) (ho:b.over=true):(b.why=0∧∀p∈outs,p∈wr.map (·.path))∨b.why≠0:=by
 cases h.e with
 | waits d _ _ _ _ _ _ h3 _=>rw[h3]at ho;cases ho
 | read d _ _ _ _ h4=>exact .inr (by rw[h4];decide)
 | ended d _ _ h2 _ h4=>exact .inl ⟨h4,h2⟩
 | short d _ _ _ _ h4=>exact .inr (by rw[h4];decide)
 | failed d _ _ h2 _ h4=>exact .inr (by rw[h4];exact h2)
 | wrote d _ _ _ h4=>exact .inr (by rw[h4];decide)
/-! ### a box ahead of its first step -/
noncomputable def CE (env:List (Txt × Txt)) (outs:List Txt) (may:Txt→Bool) (cs:List CmdV):BoxV:=⟨⟨(cs.reverse).map .cmd,env,[],[],[],false,do0,[]⟩,outs,may,[],[],[],false,0⟩
noncomputable def ZR (env:List (Txt × Txt)) (outs:List Txt) (may:Txt→Bool) (cs:List CmdV):BoxV:=yQ (CE env outs may cs)
def C9 (cs:List CmdV):CfV:=⟨cs.map .cmd,st0,[]⟩
theorem zak (env:List (Txt × Txt)) (cs:List CmdV) (hl:cs.length≤400):JF ⟨(cs.reverse).map .cmd,env,[],[],[],false,do0,[]⟩:=by
 refine .inl ⟨⟨⟨(cs.reverse).map .cmd,[],by simp,fun t ht=>?_,by simp⟩,?_,?_,by simp,by simp,by simp⟩,rfl⟩
 ·obtain⟨c,_,rfl⟩:=List.mem_map.1 ht
  rfl
 ·have hs:Y6 ([]:List KnV) ((cs.reverse).map .cmd)=0:=u6 _ _ fun t ht=>by
   obtain⟨c,_,rfl⟩:=List.mem_map.1 ht
   rfl
  simp only[hs]
  simp[YN,xY]
 ·have:=List.countP_le_length (p:=isC) (l:=(cs.reverse).map TdV.cmd)
  simp at this ⊢
  omega
theorem zeZ (env:List (Txt × Txt)) (outs:List Txt) (may:Txt→Bool) (cs:List CmdV) (hl:cs.length≤400):zhg env (C9 cs) [] outs may [] (CE env outs may cs):=by
 refine⟨⟨zak env cs hl,⟨.inl rfl,fun _=>rfl⟩,rfl,rfl,fun kn' _=>?_⟩,by show (0:Int)≠2;decide,rfl,by simp,by simp,rfl,rfl,rfl,rfl,rfl⟩
 have:jV [] (CE env outs may cs).run=C9 cs:=by
  simp[jV,CE,C9,st0,do0]
 rw[this];exact .refl _
theorem zec (env:List (Txt × Txt)) (outs:List Txt) (may:Txt→Bool) (cs:List CmdV) (hl:cs.length≤400):∃m,WY env (C9 cs) [] outs may m (ZR env outs may cs):=by
 obtain⟨m,h⟩:=(V7 (zeZ env outs may cs hl)).2
 exact⟨m,by simpa[ZR]using h⟩
theorem zeF.nil (known:List KnV) (may:Txt→Bool):zeF known [] may:=⟨by simp,by simp,by simp⟩
def zfi (l:List Txt):Txt:=l.flatMap (·++[10])
noncomputable def xT (env:List (Txt × Txt)) (kn:List KnV) (line:Txt) (ws:List Txt) (s:StV):StV :=
 let w:=ws.getD 0 []
 let arg:=ws.getD 1 []
 if w=zZ∨w=w8 then
  (
   if (y7 kn arg s).1.stop.kind≠0 then(y7 kn arg s).1
   else if (y7 kn arg s).2.is=true then yP (y7 kn arg s).2.data (y7 kn arg s).1
   else if w=zZ then yZ 10 (y7 kn arg s).1 else(y7 kn arg s).1)
 else if w=jT then(zdm kn (ws.getD 2 []) 501 arg s []).1
 else if w=tText then yP (V9 line++[10]) s
 else if w=yO then(match env.find? fun x=>decide (x.1=arg)with
  | some x=>yP x.2 s
  | none=>yZ 10 s)
 else if w=yR then yZ 15 s
 else if w=kG then(if ((z7 s.buf).filter fun x=>Lib.contains x arg)=[] then yZ 15 s else s)
 else if w=wQ then yP (zfi ((z7 s.buf).filter fun x=>Lib.contains x arg)) { s with buf:=[] }
 else if w=j8 then { s with wrote:=s.wrote++[⟨2,arg,s.buf,0⟩],buf:=[] }
 else yP (cS w arg s.buf) { s with buf:=[] }
noncomputable def Y9 (env:List (Txt × Txt)) (kn:List KnV):List Txt→StV→StV
 | [],s=>{ s with stop:=⟨3,[],[],0⟩ }
 | x::r,s=>if U4 (zR x)=true then Y9 env kn r s
  else if (xT env kn x (zR x) s).stop.kind≠0 then xT env kn x (zR x) s
  else Y9 env kn r (xT env kn x (zR x) s)
structure gR (s:StV):Prop where
 stop:s.stop=do0
 len:s.asked.length≤500
theorem gR.d {s:StV} (h:gR s):CG s []:=⟨h.stop,List.nodup_nil,by simp,h.len⟩
theorem gR.of {s s':StV} (h:gR s) (h1:s'.stop=s.stop) (h2:s'.asked=s.asked):gR s':=⟨h1.trans h.stop,by rw[h2];exact h.len⟩
theorem DF {t:Txt} {s:StV} (h:gR s) (hk:(yP t s).stop.kind=0):gR (yP t s):=by
 unfold yP at hk ⊢
 split
 ·rename_i h1;rw[if_pos h1]at hk;simp[yZ]at hk
 ·exact⟨h.stop,h.len⟩
structure zm4 (env:List (Txt × Txt)) (kn:List KnV) (c:CfV) (td:List TdV) (r:StV):Prop where
 go:r.stop.kind=0→gR r∧∃d',Q7 env kn c ⟨td,r,d'⟩
 stop:r.stop.kind≠0→∃td' d',Q7 env kn c ⟨td',r,d'⟩
theorem zm4.one {env:List (Txt × Txt)} {kn:List KnV} {x:CmdV} {td:List TdV} {s r:StV} {d d':List Txt} (h:gR s) (e:V6 env x ⟨td,s,d⟩=⟨td,r,d'⟩) (hi:r.stop.kind=0→gR r):zm4 env kn ⟨.cmd x::td,s,d⟩ td r:=by
 have hk0:s.stop.kind=0:=by rw[h.stop];rfl
 have hr:Q7 env kn ⟨.cmd x::td,s,d⟩ ⟨td,r,d'⟩:=by
  refine .step hk0 ?_
  have:J6 env kn ⟨.cmd x::td,s,d⟩=V6 env x ⟨td,s,d⟩:=rfl
  rw[this,e];exact .refl _
 exact⟨fun hk=>⟨hi hk,d',hr⟩,fun _=>⟨td,d',hr⟩⟩
theorem DY {s:Txt} {c:CmdV} (h:Z0 s=some (some c)):∃w ws,zR s=w::ws∧¬w.head?=some 35∧c.words.getD 0 []=w∧((w=tText∧c.rest=V9 s)∨(w≠tText∧c.words=w::ws∧vH (zR s)=true)):=by
 unfold Z0 at h
 cases hw:zR s with
 | nil=>rw[hw]at h;simp at h
 | cons w ws =>
  rw[hw]at h
  simp only at h
  split at h
  ·simp at h
  rename_i h1
  refine⟨w,ws,rfl,h1,?_⟩
  split at h
  ·rename_i h2
   simp only[Option.some.injEq]at h
   subst h
   refine⟨rfl,.inl ⟨h2,?_⟩⟩
   subst h2
   exact zcE hw
  split at h
  ·simp at h
  ·rename_i h2 h3
   simp only[Option.some.injEq]at h
   have hg:vH (zR s)=true:=by
    cases hb:vH (zR s)with
    | true=>rfl
    | false =>
     have:=(vB s).2 hb
     unfold Z0 at this
     rw[hw]at this
     simp only at this
     rw[if_neg h1,if_neg h2,if_neg h3]at this
     cases this
   rw[hw]at hg
   subst h
   exact⟨rfl,.inr ⟨h2,rfl,hg⟩⟩
theorem zeI {α:Type} (g:α→Bool) (l:List α):(l.any g=true)↔¬(l.filter g=[]):=by
 rw[List.any_eq_true,List.filter_eq_nil_iff]
 constructor
 ·rintro⟨x,h1,h2⟩ h3;exact h3 x h1 h2
 ·intro h
  obtain⟨x,hx⟩:=Classical.not_forall.1 h
  obtain⟨h1,h2⟩:=Classical.not_imp.1 hx
  exact⟨x,h1,by simpa using h2⟩
theorem zhY {env:List (Txt × Txt)} {kn:List KnV} {line:Txt} {c:CmdV} (hc:Z0 line=some (some c)) (td:List TdV) {s:StV} (d:List Txt) (h:gR s):zm4 env kn ⟨.cmd c::td,s,d⟩ td (xT env kn line (zR line) s):=by
 have hk0:s.stop.kind=0:=by rw[h.stop];rfl
 obtain⟨w,ws,hw,hh,hc0,hcase⟩:=DY hc
 rw[hw]
 have hst:J6 env kn ⟨.cmd c::td,s,d⟩=V6 env c ⟨td,s,d⟩:=rfl
 have h1st:Q7 env kn ⟨.cmd c::td,s,d⟩ (V6 env c ⟨td,s,d⟩):=.step hk0 (by rw[hst];exact .refl _)
 unfold xT
 simp only[List.getD_cons_zero]
 rcases hcase with⟨ht,hrest⟩|⟨ht,hcw,hg⟩
 ·-- a text
  subst ht
  have e:V6 env c ⟨td,s,d⟩=⟨td,yP (V9 line++[10]) s,d⟩:=by
   unfold V6
   simp only[hc0,hrest]
   rw[if_neg (by decide),if_neg (by decide),if_neg (by decide),if_pos trivial];rfl
  rw[if_neg (by decide),if_neg (by decide),if_pos rfl]
  exact .one h e (DF h)
 have ha:c.words.getD 1 []=(w::ws).getD 1 []:=by rw[hcw]
 have ha2:c.words.getD 2 []=(w::ws).getD 2 []:=by rw[hcw]
 obtain⟨arg,harg⟩:∃arg,arg=(w::ws).getD 1 []:=⟨_,rfl⟩
 obtain⟨arg2,harg2⟩:∃arg,arg=(w::ws).getD 2 []:=⟨_,rfl⟩
 rw[←harg]at ha ⊢
 rw[←harg2]at ha2 ⊢
 have hcmd:V6 env c ⟨td,s,d⟩=_:=rfl
 conv at hcmd=>rhs;unfold V6
 simp only[hc0,ha,ha2]at hcmd
 by_cases h1:w=zZ∨w=w8
 ·rw[if_pos h1]
  have key:∀co:CoV,(co=.there .add∧w=zZ)∨(co=.tr∧w≠zZ)→V6 env c ⟨td,s,d⟩=VX arg co ⟨td,s,d⟩→zm4 env kn ⟨.cmd c::td,s,d⟩ td (if (y7 kn arg s).1.stop.kind≠0 then(y7 kn arg s).1 else if (y7 kn arg s).2.is=true then yP (y7 kn arg s).2.data (y7 kn arg s).1 else if w=zZ then yZ 10 (y7 kn arg s).1 else(y7 kn arg s).1):=by
   intro co hco e
   rw[e]at h1st
   rcases zjM env kn arg co ⟨td,s,d⟩ hk0 h.len with⟨k,g1,g2,g3,g4,g5,g6,g7⟩|⟨g1,td',g2⟩
   ·simp only at g1 g3 g4 g5 g6 g7
    have hk:(y7 kn arg s).2=k:=by rw[g1]
    have hi1:gR (y7 kn arg s).1:=⟨g3.trans h.stop,g6⟩
    rw[if_neg (by rw[g3,hk0];simp),hk]
    have hr:=h1st.trans g7
    cases his:k.is with
    | true =>
     rw[if_pos rfl]
     have e2:coS co k ⟨td,(y7 kn arg s).1,d⟩=⟨td,yP k.data (y7 kn arg s).1,d⟩:=by
      rcases hco with⟨rfl,_⟩|⟨rfl,_⟩<;>simp[coS,his,thS,CfV.map]
     rw[e2]at hr
     exact⟨fun hk=>⟨DF hi1 hk,d,hr⟩,fun _=>⟨td,d,hr⟩⟩
    | false =>
     rw[if_neg (by decide)]
     rcases hco with⟨rfl,hw⟩|⟨rfl,hw⟩
     ·rw[if_pos hw]
      have e2:coS (.there .add) k ⟨td,(y7 kn arg s).1,d⟩=⟨td,yZ 10 (y7 kn arg s).1,d⟩:=by simp[coS,his,CfV.map]
      rw[e2]at hr
      exact⟨fun hk=>by simp[yZ]at hk,fun _=>⟨td,d,hr⟩⟩
     ·rw[if_neg hw]
      have e2:coS .tr k ⟨td,(y7 kn arg s).1,d⟩=⟨td,(y7 kn arg s).1,d⟩:=by simp[coS,his]
      rw[e2]at hr
      exact⟨fun hk=>⟨hi1,d,hr⟩,fun _=>⟨td,d,hr⟩⟩
   ·simp only at g1 g2
    rw[if_pos g1]
    exact⟨fun hk=>absurd hk g1,fun _=>⟨td',d,h1st.trans g2⟩⟩
  rcases h1 with h1|h1
  ·refine key (.there .add) (.inl ⟨rfl,h1⟩) ?_
   rw[hcmd,if_pos h1]
  ·refine key .tr (.inr ⟨rfl,by rw[h1];decide⟩) ?_
   rw[hcmd,if_neg (by rw[h1];decide),if_pos h1]
 rw[if_neg h1]
 simp only[not_or]at h1
 rw[if_neg h1.1,if_neg h1.2]at hcmd
 by_cases h2:w=jT
 ·rw[if_pos h2]at hcmd ⊢
  rw[hcmd]at h1st
  have hsc:=zco (env:=env) (kn:=kn) (w:=arg2) 501 arg s [] td h.d (by simp) (by simp)
  refine⟨fun hk=>?_,fun hk=>?_⟩
  ·obtain⟨g1,g2⟩:=hsc.go hk
   exact⟨⟨g1.stop,g1.len⟩,_,h1st.trans g2⟩
  ·obtain⟨td',d',g2⟩:=hsc.stop hk
   exact⟨td',d',h1st.trans g2⟩
 rw[if_neg h2]at hcmd ⊢
 rw[if_neg ht]at hcmd ⊢
 by_cases h3:w=yO
 ·rw[if_pos h3]at hcmd ⊢
  cases hf:env.find? fun x=>decide (x.1=arg)with
  | some x =>
   rw[hf]at hcmd
   exact .one h hcmd (DF h)
  | none =>
   rw[hf]at hcmd
   exact .one h hcmd fun hk=>by simp[yZ]at hk
 rw[if_neg h3]at hcmd ⊢
 by_cases h4:w=j8
 ·rw[if_pos h4]at hcmd
  rw[if_neg (by rw[h4];decide),if_neg (by rw[h4];decide),if_neg (by rw[h4];decide),if_pos h4]
  exact .one h hcmd fun _=>⟨h.stop,h.len⟩
 rw[if_neg h4]at hcmd
 by_cases h5:w=kG
 ·rw[if_pos h5]at hcmd
  rw[if_neg (by rw[h5];decide),if_pos h5]
  have hfa:=zeI (fun x=>Lib.contains x arg) (z7 s.buf)
  by_cases hb:(z7 s.buf).any (fun x=>Lib.contains x arg)=true
  ·rw[if_pos hb]at hcmd
   rw[if_neg (hfa.1 hb)]
   exact .one h hcmd fun _=>h
  ·rw[if_neg hb]at hcmd
   rw[if_pos (Classical.byContradiction fun e=>hb (hfa.2 e))]
   exact .one h hcmd fun hk=>by simp[yZ]at hk
 rw[if_neg h5]at hcmd
 by_cases h6:w=yR
 ·rw[if_pos h6]at hcmd ⊢
  exact .one h hcmd fun hk=>by simp[yZ]at hk
 rw[if_neg h6]at hcmd ⊢
 rw[if_neg h5]
 by_cases h7:w=wQ
 ·rw[if_pos h7]
  have e:cS w arg s.buf=zfi ((z7 s.buf).filter fun x=>Lib.contains x arg):=by
   unfold cS zfi
   rw[if_neg (by rw[h7];decide),if_neg (by rw[h7];decide),if_neg (by rw[h7];decide),if_neg (by rw[h7];decide),if_pos h7]
  have hcmd':V6 env c ⟨td,s,d⟩=⟨td,yP (cS w arg s.buf) { s with buf:=[] },d⟩:=hcmd
  rw[e]at hcmd'
  exact .one h hcmd' (DF ⟨h.stop,h.len⟩)
 rw[if_neg h7,if_neg h4]
 exact .one h hcmd (DF ⟨h.stop,h.len⟩)
theorem P6 {env:List (Txt × Txt)} {kn:List KnV}:∀(l:List Txt) (i:Nat) (cs:List CmdV) (s:StV) (d:List Txt),yC i l=.ok cs→gR s→∃c',Q7 env kn ⟨cs.map .cmd,s,d⟩ c'∧c'.st=Y9 env kn l s∧c'.st.stop.kind≠0
 | [],i,cs,s,d,hc,h=>by
  cases hc
  have hk0:s.stop.kind=0:=by rw[h.stop];rfl
  exact⟨_,.step hk0 (.refl _),rfl,by simp[J6,CfV.map]⟩
 | x::r,i,cs,s,d,hc,h=>by
  rw[yC]at hc
  rw[Y9]
  cases hr:Z0 x with
  | none=>rw[hr]at hc;simp at hc
  | some y =>
   rw[hr]at hc
   cases y with
   | none =>
    simp only at hc
    have hp:U4 (zR x)=true:=by
     unfold Z0 at hr
     unfold U4
     cases hw:zR x with
     | nil=>rfl
     | cons w ws =>
      rw[hw]at hr
      simp only at hr ⊢
      split at hr
      ·rename_i h1;simp[h1]
      ·split at hr
       ·simp at hr
       ·split at hr<;>simp at hr
    rw[if_pos hp]
    exact P6 r (i+1) cs s d hc h
   | some c =>
    simp only at hc
    cases hcs:yC (i+1) r with
    | error e=>rw[hcs]at hc;simp at hc
    | ok l =>
     rw[hcs]at hc
     simp only at hc
     cases hc
     obtain⟨w,ws,hw,hh,_⟩:=DY hr
     have hp:¬U4 (zR x)=true:=by rw[hw];simp[U4,hh]
     rw[if_neg hp]
     have hs:=zhY (env:=env) (kn:=kn) hr (l.map .cmd) d h
     by_cases hk:(xT env kn x (zR x) s).stop.kind≠0
     ·rw[if_pos hk]
      obtain⟨td',d',g⟩:=hs.stop hk
      exact⟨_,g,rfl,hk⟩
     ·rw[if_neg hk]
      obtain⟨g1,d',g2⟩:=hs.go (by simpa using hk)
      obtain⟨c',g3,g4,g5⟩:=P6 r (i+1) l _ d' hcs g1
      exact⟨c',g2.trans g3,g4,g5⟩
theorem JB.far {env:List (Txt × Txt)} {cs:List CmdV} {kn:List KnV} {wr:List DoV} {r:RunV} {dd:DoV} {lines:List Txt} {i:Nat} (h:JB env (C9 cs) kn wr r dd) (hc:yC i lines=.ok cs) :
  (Y9 env kn lines st0).stop=dd∧(Y9 env kn lines st0).wrote=wr:=by
 obtain⟨c,h1,h2,h3,h4⟩:=h.ref
 obtain⟨c',g1,g2,g3⟩:=P6 (env:=env) (kn:=kn) lines i cs st0 [] hc ⟨rfl,by simp[st0]⟩
 have:=Q7.det h1 g1 h3 g3
 subst this
 rw[←g2]
 exact⟨h2,h4⟩
end Go.Proofs.YtooipdkilgpojaaGreatDoor
end
