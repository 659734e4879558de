/- The document's SHA-256: the whole text, the sum. No condition beyond each theorem's own. -/
import Derived.Test.YtcioeonlclpacaaGreatDoorS0ToS2
import Derived.Test.YtcioeonlclpacaaGreatDoorS4ToS6
set_option linter.unusedSimpArgs false
set_option linter.unusedVariables false
set_option linter.unusedSectionVars false
section
set_option maxRecDepth 100000
namespace Go.Proofs.YtcioeonlclpacaaGreatDoor
open Go Go.Ab
open Classical
variable [Sel]
@[simp] theorem zo7:qZ Tryz.prog 88=true:=by kernel_rfl
@[simp] theorem zs5:z8 Tryz.prog (.func 88)=false:=q9 zo7
@[simp] theorem zAC:qZ Tryz.prog 39=true:=by kernel_rfl
@[simp] theorem zBk:z8 Tryz.prog (.func 39)=false:=q9 zAC
abbrev K3 (b:UInt8):AV:=.i .u8 b.toNat
def xD (n:Nat):Nat:=(55+64-n % 64) % 64
theorem zba (n:Nat):(n+1+xD n) % 64=56:=by unfold xD;omega
theorem zgX {n k:Nat} (h:k<xD n):(n+1+k) % 64≠56:=by unfold xD at h;omega
theorem zm1 (n:Nat):xD n<64:=by unfold xD;omega
def W9 (n:Nat):List UInt8:=[UInt8.ofNat (n*8 / 2 ^ 56),UInt8.ofNat (n*8 / 2 ^ 48),UInt8.ofNat (n*8 / 2 ^ 40),UInt8.ofNat (n*8 / 2 ^ 32),UInt8.ofNat (n*8 / 2 ^ 24),UInt8.ofNat (n*8 / 2 ^ 16),UInt8.ofNat (n*8 / 2 ^ 8),UInt8.ofNat (n*8)]
def zJo (l:List UInt8):List UInt8:=l++[128]++List.replicate (xD l.length) 0++W9 l.length
theorem zeC (l:List UInt8):(zJo l).length % 64=0:=by
 have:=zba l.length
 simp[zJo,W9];omega
theorem zPG (l:List UInt8):(zJo l).length≤l.length+80:=by
 have:=zm1 l.length
 simp[zJo,W9];omega

theorem zhj (N:Nat):∀j,j<8→(W9 N).take (8-j)=(W9 N).take (7-j)++[UInt8.ofNat (N*8 / 2 ^ (8*j))]
 | 0,_=>by simp[W9]|1,_=>by simp[W9]|2,_=>by simp[W9]|3,_=>by simp[W9]|4,_=>by simp[W9]|5,_=>by simp[W9]|6,_=>by simp[W9]|7,_=>by simp[W9]
 | j+8,h=>by omega
theorem znm (m:Nat):IntKind.u8.wrap (m:Int)=((UInt8.ofNat m).toNat:Int):=by
 simp[IntKind.wrap,IntKind.signed,IntKind.bits]
theorem zei {n:Int} (h0:0≤n) (h1:n<18446744073709551616):IntKind.u64.wrap n=n:=by
 simp[IntKind.wrap,IntKind.signed,IntKind.bits];omega
theorem zpG (n k:Nat) (h:k<64):((n:Int)).fdiv (2 ^ (min k IntKind.u64.bits))=((n / 2 ^ k:Nat):Int):=by
 rw[show min k IntKind.u64.bits=k by simp[IntKind.bits];omega,Int.fdiv_eq_ediv_of_nonneg _ (Int.le_of_lt (Int.pow_pos (by omega)))]
 norm_cast
theorem zdJ:K3 128=.i .u8 128:=rfl
theorem zbY:K3 0=.i .u8 0:=rfl
set_option maxHeartbeats 1000000 in
theorem zPh (l:List UInt8) (hl:l.length≤1000000000000):PC Tryz.prog 88 [.av .str (.s l)] (.av (.slice 5) (QH (zJo l))):=by
 have hp:=zm1 l.length
 refine zow Tryz.func88 cf0 fun imm0 w0=>?_
 simp (disch:=omega) [zz,wB]
 (repeat with_reducible refine om ?_)
 refine AT.loopV (α:=Nat × Nat) (fun k ver=>St.of [(0,.av .str (.s l)),(3,.av (.slice 5) (.sl (.own k.2 (ver k.2)) ((l++[128]++List.replicate k.1 0).map K3)))] [] ver [])
  (fun k=>k.1≤xD l.length) (fun k=>xD l.length-k.1) (0,10) ?h0 ?h1 ?h2
 case h0=>apply Le.of<;>simp[qU,qG,qO,qH,qP,qK,qF,qI,qJ,qN,zdJ]<;>try omega
 case h1=>simp
 case h2 =>
  rintro⟨k,tk⟩ ver hk KL hN hE
  simp only at hk hN
  refine qM (cf:=cf0) laid mixed _ _ _ (by kernel_rfl) ?_
  have hlen:((l.length:Int)+((k:Int)+1)).tmod 64=(((l.length+1+k) % 64:Nat):Int):=by
   rw[Int.tmod_eq_emod_of_nonneg (by omega)];omega
  by_cases hkt:k<xD l.length
  ·have hne:=zgX hkt
   have hne':¬((l.length:Int)+((k:Int)+1)).tmod 64=56:=by rw[hlen];omega
   simp (disch:=omega) [zz,wB,hne']
   (repeat with_reducible refine om ?_)
   refine hN _ (k+1,17) ?_ (by first|omega|(simp;done)|(simp;omega)) (by first|omega|(simp;done)|(simp;omega));apply Le.of<;>simp[qU,qG,qO,qH,qP,qK,qF,qI,qJ,qN,List.replicate_succ',zbY,zdJ]<;>try omega
  ·have hke:k=xD l.length:=by omega
   subst hke
   have hsp:=zba l.length
   have hne':((l.length:Int)+((xD l.length:Int)+1)).tmod 64=56:=by rw[hlen];omega
   simp (disch:=omega) [zz,hne']
   refine hE _ _ (by simp) ?_
   simp (disch:=omega) [zz,zei]
   refine AT.loopV (α:=Nat × Nat) (fun k ver=>St.of [(3,.av (.slice 5) (.sl (.own k.2 (ver k.2)) ((l++[128]++List.replicate (xD l.length) 0++(W9 l.length).take (8-k.1)).map K3))),(4,.av (.int .u64) (.i .u64 ((l.length*8:Nat):Int))),(5,.av (.int .i64) (.i .i64 ((k.1:Int)-1)))] [] ver [])
    (fun k=>k.1≤8) (fun k=>k.1) (8,tk) ?g0 ?g1 ?g2
   case g0=>apply Le.of<;>simp[qU,qG,qO,qH,qP,qK,qF,qI,qJ,qN]<;>try omega
   case g1=>simp
   case g2 =>
    rintro⟨j,tk2⟩ ver2 hj KL2 hN2 hE2
    simp only at hj hN2
    refine qM (cf:=cf0) laid mixed _ _ _ (by kernel_rfl) ?_
    cases j with
    | zero =>
     simp (disch:=omega) [zz]
     refine hE2 _ _ (by simp) ?_
     simp (disch:=omega) [zz,Tryz.f88]
     rw[show (List.map K3 l++K3 128::(List.replicate (xD l.length) (K3 0)++List.take 8 (List.map K3 (W9 l.length))))=(zJo l).map K3 by simp[zJo,W9]]
     simp[QH,AV.ers_eq,AV.er,Function.comp_def]
    | succ j =>
     have hlb:(W9 l.length).length=8:=rfl
     have hst:=zhj l.length j (by omega)
     have e3:=zpG (l.length*8) (8*j) (by omega)
     have hst':((W9 l.length).map K3).take (8-j)=((W9 l.length).map K3).take (7-j)++[K3 (UInt8.ofNat (l.length*8 / 2 ^ (8*j)))]:=by
      rw[←List.map_take,hst,List.map_append,List.map_take];rfl
     have e8:=znm (l.length*8 / 2 ^ (8*j))
     simp at e8
     have hge:(0:Int)≤(j:Int):=by omega
     push_cast at e3
     simp (disch:=omega) [zz,wB,e3,znm,hge]
     (repeat with_reducible refine om ?_)
     refine hN2 _ (j,33) ?_ (by first|omega|(simp;done)|(simp;omega)) (by first|omega|(simp;done)|(simp;omega));apply Le.of<;>simp[qU,qG,qO,qH,qP,qK,qF,qI,qJ,qN,hst',e8]<;>try omega
def QA (t:List UInt8):Nat→List UInt32
 | 0=>h8
 | n+1=>jR (QA t n) ((t.drop (64*n)).take 64)
theorem gT (t:List UInt8):∀n,(QA t n).length=8
 | 0=>rfl
 | n+1=>zJJ (gT t n)
def WM (h:List UInt32):List UInt8:=(List.range 32).map fun i=>(h.getD (i/4) 0 >>> UInt32.ofNat (24-8*(i%4))).toUInt8
def sha (l:List UInt8):List UInt8:=WM (QA (zJo l) ((zJo l).length / 64))
theorem zdN (h:List UInt32):(WM h).length=32:=by simp[WM]
theorem zmR (d:List UInt8):KW d=.agg (d.map K3):=rfl

set_option maxHeartbeats 1000000 in
theorem zNr (l:List UInt8) (hl:l.length≤1000000000000):PC Tryz.prog 39 [.av .str (.s l)] (.av (qD Tryz.prog 46) (KW (sha l))):=by
 obtain⟨t,ht⟩:∃t,zJo l=t:=⟨_,rfl⟩
 have htl:t.length≤1000000000080:=by have:=zPG l;rw[ht]at this;omega
 have htm:t.length % 64=0:=by have:=zeC l;rw[ht]at this;omega
 obtain⟨M,hM⟩:∃M,t.length=64*M:=⟨t.length / 64,by omega⟩
 have hbe:QH t=.sl .no (t.map fun b=>.i .u8 b.toNat):=rfl
 refine zow Tryz.func39 cf0 fun imm0 w0=>?_
 simp (disch:=omega) [zz]
 refine zcv (zPh l hl) ?_
 rw[ht]
 simp (disch:=omega) [zz]
 refine AT.loopV (α:=Nat) (fun k ver=>St.of [(2,.loc 2 []),(3,.av (.slice 170) (.sl .no ((QA t k).map w6))),(4,.av (.slice 5) (QH t)),(5,.av (.int .i64) (.i .i64 (64*k:Nat)))] [(2,(qD Tryz.prog 46,.agg (List.replicate 32 (.i .u8 0))))] ver [])
  (fun k=>64*k≤t.length) (fun k=>M-k) 0 ?_ ?_ ?_
 ·apply Le.of<;>simp[qU,qG,qO,qH,qP,qK,qF,qI,qJ,qN,QA,h8,wi]<;>try omega
 ·simp
 ·rintro k ver hk KL hN hE
  have hkl:=gT t k
  refine qM (cf:=cf0) laid mixed _ _ _ (by kernel_rfl) ?_
  by_cases hlt:64*k<t.length
  ·have e1:List.drop (64*k) (List.take (64*k+64) t)=(t.drop (64*k)).take 64:=by rw[List.drop_take];congr 1;omega
   have hlt':64*(k:Int)<t.length:=by omega
   simp (disch:=omega) [zz,hbe,hlt']
   (repeat with_reducible refine om ?_)
   refine qL (zPM (QA t k) ((t.drop (64*k)).take 64) hkl (by simp;omega)) rfl rfl (by simp) ?_ ?_
   ·simp[qS,TV.er,AV.er,AV.ers_eq,Function.comp_def,QH,List.drop_take]
   ·simp (disch:=omega) [zz]
    refine hN _ (k+1) ?_ (by first|omega|(simp;done)|(simp;omega)) (by first|omega|(simp;done)|(simp;omega));apply Le.of<;>simp[qU,qG,qO,qH,qP,qK,qF,qI,qJ,qN,QA,hbe]<;>try omega
  ·obtain rfl:k=M:=by omega
   have hlt':¬64*(k:Int)<t.length:=by omega
   simp (disch:=omega) [zz,hbe,hlt']
   refine hE _ _ (by simp) ?_
   simp (disch:=omega) [zz]
   have hdk:(zJo l).length / 64=k:=by rw[ht,hM];omega
   have hsha:sha l=WM (QA t k):=by rw[sha,hdk,ht]
   obtain⟨D,hD⟩:∃D,WM (QA t k)=D:=⟨_,rfl⟩
   have hDl:D.length=32:=by rw[←hD];exact zdN _
   refine AT.loopV (α:=Nat) (fun j ver=>St.of [(2,.loc 2 []),(3,.av (.slice 170) (.sl .no ((QA t k).map w6))),(6,.loc 6 []),(7,.av (.int .i64) (.i .i64 j))] [(2,(qD Tryz.prog 46,.agg (List.replicate 32 (.i .u8 0)))),(6,(qD Tryz.prog 46,.agg ((D.take j++List.replicate (32-j) 0).map K3)))] ver [])
    (fun j=>j≤32) (fun j=>32-j) 0 ?_ ?_ ?_
   ·apply Le.of<;>simp[qU,qG,qO,qH,qP,qK,qF,qI,qJ,qN,zbY]<;>try omega
   ·simp
   ·rintro j ver2 hj KL2 hN2 hE2
    refine qM (cf:=cf0) laid mixed _ _ _ (by kernel_rfl) ?_
    by_cases hjt:j<32
    ·obtain⟨q,hq⟩:∃q:Nat,j / 4=q:=⟨_,rfl⟩
     obtain⟨r,hr⟩:∃r:Nat,j % 4=r:=⟨_,rfl⟩
     have hq':(j:Int).tdiv 4=(q:Int):=by rw[Int.tdiv_eq_ediv_of_nonneg (by omega)];omega
     have hr':(j:Int).tmod 4=(r:Int):=by rw[Int.tmod_eq_emod_of_nonneg (by omega)];omega
     have hjt':(j:Int)<32:=by omega
     obtain⟨x,hx⟩:∃x,(QA t k)[q]?=some x:=⟨_,List.getElem?_eq_getElem (by omega)⟩
     have hDj:D[j]?=some (x >>> UInt32.ofNat (24-8*r)).toUInt8:=by
      rw[←hD]
      simp[WM,hjt,hq,hr,hx]
     have W1:((D.take j++List.replicate (32-j) 0).map K3).set j (K3 (x >>> UInt32.ofNat (24-8*r)).toUInt8)=(D.take (j+1)++List.replicate (32-(j+1)) 0).map K3:=by
      rw[←List.map_set,List.take_add_one,hDj,show 32-j=(32-(j+1))+1 by omega,List.replicate_succ]
      simp[List.set_append_right,hDl,Nat.min_eq_left (Nat.le_of_lt hjt)]
     generalize QA t k=H at *
     have hy:=zrH (x >>> UInt32.ofNat (24-8*r))
     generalize (x >>> UInt32.ofNat (24-8*r)).toUInt8=y at *
     have gx:∀g:q<H.length,H[q]=x:=fun g=>by rw[List.getElem?_eq_getElem g]at hx;simpa using hx
     simp (disch:=omega) [zz,hjt',hq',hr',gx,uU,hy]
     (repeat with_reducible refine om ?_)
     simp only[List.map_append,List.map_take,List.map_replicate,zbY]at W1
     refine hN2 _ (j+1) ?_ (by first|omega|(simp;done)|(simp;omega)) (by first|omega|(simp;done)|(simp;omega));apply Le.of<;>simp[qU,qG,qO,qH,qP,qK,qF,qI,qJ,qN,W1,zbY]<;>try omega
    ·obtain rfl:j=32:=by omega
     simp (disch:=omega) [zz]
     refine hE2 _ _ (by simp) ?_
     simp (disch:=omega) [zz,Tryz.f39]
     rw[hsha,hD,zmR,List.take_of_length_le (by simp[hDl])]
     simp[AV.ers_eq,Function.comp_def,AV.er]
@[simp] theorem zl6:qZ Tryz.prog 159=true:=by kernel_rfl
@[simp] theorem zq7:z8 Tryz.prog (.func 159)=false:=q9 zl6
@[simp] theorem zmg:qZ Tryz.prog 160=true:=by kernel_rfl
@[simp] theorem zqm:z8 Tryz.prog (.func 160)=false:=q9 zmg
@[simp] theorem zm2:qZ Tryz.prog 161=true:=by kernel_rfl
@[simp] theorem zqj:z8 Tryz.prog (.func 161)=false:=q9 zm2
@[simp] theorem zko:qZ Tryz.prog 106=true:=by kernel_rfl
@[simp] theorem zqt:z8 Tryz.prog (.func 106)=false:=q9 zko
abbrev zpn:Cfg:=⟨fun n=>n==3,fun _=>false⟩
noncomputable abbrev U0:TyD:=qD Tryz.prog 263
noncomputable def jE (B:Nat) (s:List UInt32) (op:AV) (n:Nat):q8:=[(B,.var U0 (.agg [.agg (s.map w6),op,.i .u64 n]))]
theorem zjf:q7 Tryz.prog 159 [] [] fun r H'=>∃B,r=.av .ptr (.ptr B U0 [])∧H'=jE B h8 (.sl .full []) 0:=by
 refine zov Tryz.func159 zpn fun imm0 w0=>?_
 simp (disch:=omega) [zz]
 refine qL zjO rfl rfl (by simp) (by simp[qS]) ?_
 simp (disch:=omega) [zz]
 intro B
 simp (disch:=omega) [zz,Tryz.f159]
 simp[jE,AV.erks_eq,Function.comp_def,AV.erk]

theorem za3 {t u:List UInt8}:∀ {n:Nat},64*n≤t.length→QA (t++u) n=QA t n
 | 0,_=>rfl
 | n+1,h=>by
  rw[QA,QA,za3 (by omega),List.drop_append_of_le_length (by omega),List.take_append_of_le_length (by simp;omega)]

abbrev znp:Cfg:=⟨fun _=>false,fun n=>n==39⟩
set_option maxHeartbeats 4000000 in
theorem ziZ (B:Nat) (l:List UInt8) (hl:l.length≤1000000000000) :
  q7 Tryz.prog 160 [.av .ptr (.ptr B U0 []),.av .str (.s l)] (jE B h8 (.sl .full []) 0) fun r H'=>r=.tup []∧H'=jE B (QA l (l.length / 64)) (QH (l.drop (64*(l.length / 64)))) l.length:=by
 have hbe:∀x,QH x=.sl .no (x.map K3):=fun _=>rfl
 refine zov Tryz.func160 znp fun imm0 w0=>?_
 simp (disch:=omega) [zz,jE,zei,wB]
 (repeat with_reducible refine om ?_)
 refine AT.loopV (α:=Nat) (fun k ver=>St.of [(0,.av .ptr (.ptr B U0 []))] [] ver (jE B (QA l k) (QH (l.drop (64*k))) l.length))
  (fun k=>64*k≤l.length) (fun k=>l.length-64*k) 0 ?_ ?_ ?_
 ·refine Le.ofW ?_ ?_ ?_ ?_ ?_<;>simp[qU,qG,zbx,C4,zca,zbn,zk8,zfd,zbU,gE,cB,qO,qH,qP,qK,qF,qI,qJ,qN,jE,QA,hbe]<;>try omega
 ·simp
 ·rintro k ver hk KL hN hE
  obtain⟨R,hR⟩:∃R,l.drop (64*k)=R:=⟨_,rfl⟩
  have hRl:R.length=l.length-64*k:=by rw[←hR];simp
  have hkl:=gT l k
  have hn1:QA l (k+1)=jR (QA l k) (R.take 64):=by rw[QA,hR]
  have hn2:l.drop (64*(k+1))=R.drop 64:=by rw[←hR,List.drop_drop];congr 1
  rw[hR]
  obtain⟨S,hS⟩:∃S,QA l k=S:=⟨_,rfl⟩
  rw[hS]at hn1 hkl ⊢
  refine qM (cf:=znp) laid mixed _ _ _ (by kernel_rfl) ?_
  by_cases hlt:64≤R.length
  ·have hlt':(64:Int)≤R.length:=by omega
   simp (disch:=omega) [zz,jE,hbe,hlt']
   (repeat with_reducible refine om ?_)
   refine jP (R:=fun r H'=>r=.tup []∧H'=jE B (jR S (R.take 64)) (QH R) l.length) rfl (by simp[qQ]) (by simp) ?_ ?_
   ·have:=zk1 B S (R.take 64) hkl (by simp;omega) (op:=QH R) (nn:=.i .u64 l.length) (by simp) (by simp[AV.erk])
    simpa[jE,hbe,TV.er,AV.er,AV.ers_eq,AV.erk,AV.erks,AV.erks_eq,q8.er_cons,q8.er_nil,HObj.er_var,Function.comp_def,Tok.k]using this
   ·rintro r H' ⟨rfl,rfl⟩
    simp (disch:=omega) [zz,jE,hbe]
    (repeat with_reducible refine om ?_)
    refine hN _ (k+1) ?_ (by omega) (by omega)
    rw[hn1,hn2]
    have htk:List.take R.length (List.map K3 R)=List.map K3 R:=List.take_of_length_le (by simp)
    refine Le.ofW ?_ ?_ ?_ ?_ ?_<;>simp[qU,qG,zbx,C4,zca,zbn,zk8,zfd,zbU,gE,cB,qO,qH,qP,qK,qF,qI,qJ,qN,jE,hbe,htk]<;>try omega
  ·have hlt':¬(64:Int)≤R.length:=by omega
   have hk2:l.length / 64=k:=by omega
   simp (disch:=omega) [zz,jE,hbe,hlt']
   refine hE _ _ (by simp) ?_
   simp (disch:=omega) [zz,Tryz.f160,jE,hbe,hk2,hS,hR]
   simp[AV.erks_eq,Function.comp_def,AV.erk,Tok.k,AV.ers_eq,AV.er]

def ZX (s:List UInt32) (t:List UInt8):Nat→List UInt32
 | 0=>s
 | n+1=>jR (ZX s t n) ((t.drop (64*n)).take 64)
theorem zaB {s:List UInt32} (t:List UInt8) (hs:s.length=8):∀n,(ZX s t n).length=8
 | 0=>hs
 | n+1=>zJJ (zaB t hs n)
def JC (op:List UInt8) (n:Nat):List UInt8:=op++[128]++List.replicate (xD op.length) 0++W9 n
abbrev zk0:Cfg:=⟨fun n=>n==3,fun _=>false⟩
theorem vX:∀l:List UInt8,bytesOf (l.map K3)=some l
 | []=>rfl
 | b::l=>by simp[bytesOf,vX l]
set_option maxHeartbeats 4000000 in
theorem zkt (B:Nat) (s:List UInt32) (op:List UInt8) (n:Nat) (hs:s.length=8) (hop:op.length<64) (hn:n≤1000000000000) :
  q7 Tryz.prog 161 [.av .ptr (.ptr B U0 [])] (jE B s (QH op) n) fun r H'=>r=.av (qD Tryz.prog 46) (KW (WM (ZX s (JC op n) ((JC op n).length / 64))))∧H'=jE B s (QH op) n:=by
 have hbe:∀x,QH x=.sl .no (x.map K3):=fun _=>rfl
 refine q7.drop (R:=fun r H'=>r=.av (qD Tryz.prog 46) (KW (WM (ZX s (JC op n) ((JC op n).length / 64))))∧∃B2 o,H'=(B2,o)::jE B s (QH op) n) ?_ ?_
 rotate_left
 ·rintro r H' ⟨rfl,B2,o,rfl⟩
  exact⟨_,List.sublist_cons_self _ _,rfl,rfl⟩
 have hp:=zm1 op.length
 refine zov Tryz.func161 zk0 fun imm0 w0=>?_
 simp (disch:=omega) [zz,jE,hbe]
 intro B2 hB2
 simp (disch:=omega) [zz,jE,hbe,vX,wB,hB2]
 (repeat with_reducible refine om ?_)
 refine AT.loopV (α:=Nat × Nat) (fun k ver=>St.of [(0,.av .ptr (.ptr B U0 [])),(2,.loc 2 []),(3,.av .ptr (.ptr B2 (.arr 8 170) [])),(4,.av (.slice 5) (.sl (.own k.2 (ver k.2)) ((op++[128]++List.replicate k.1 0).map K3)))] [(2,(qD Tryz.prog 46,.agg (List.replicate 32 (.i .u8 0))))] ver ((B2,.var (.arr 8 170) (.agg (s.map w6)))::jE B s (QH op) n))
  (fun k=>k.1≤xD op.length) (fun k=>xD op.length-k.1) (0,23) ?_ ?_ ?_
 ·apply Le.of<;>simp[qU,qG,qO,qH,qP,qK,qF,qI,qJ,qN,zdJ,jE,hbe]<;>try omega
 ·simp
 rintro⟨k,tk⟩ ver hk KL hN hE
 simp only at hk hN
 refine qM (cf:=zk0) laid mixed _ _ _ (by kernel_rfl) ?_
 have hlen:((op.length:Int)+((k:Int)+1)).tmod 64=(((op.length+1+k) % 64:Nat):Int):=by
  rw[Int.tmod_eq_emod_of_nonneg (by omega)];omega
 by_cases hkt:k<xD op.length
 ·have hne:=zgX hkt
  have hne':¬((op.length:Int)+((k:Int)+1)).tmod 64=56:=by rw[hlen];omega
  simp (disch:=omega) [zz,wB,hne']
  (repeat with_reducible refine om ?_)
  refine hN _ (k+1,30) ?_ (by first|omega|(simp;done)|(simp;omega)) (by first|omega|(simp;done)|(simp;omega));apply Le.of<;>simp[qU,qG,qO,qH,qP,qK,qF,qI,qJ,qN,List.replicate_succ',zbY,zdJ]<;>try omega
 have hke:k=xD op.length:=by omega
 subst hke
 have hsp:=zba op.length
 have hne':((op.length:Int)+((xD op.length:Int)+1)).tmod 64=56:=by rw[hlen];omega
 simp (disch:=omega) [zz,hne']
 refine hE _ _ (by simp) ?_
 simp (disch:=omega) [zz,zei]
 refine AT.loopV (α:=Nat × Nat) (fun k ver=>St.of [(0,.av .ptr (.ptr B U0 [])),(2,.loc 2 []),(3,.av .ptr (.ptr B2 (.arr 8 170) [])),(4,.av (.slice 5) (.sl (.own k.2 (ver k.2)) ((op++[128]++List.replicate (xD op.length) 0++(W9 n).take (8-k.1)).map K3))),(5,.av (.int .i64) (.i .i64 (8*(k.1:Int)-8)))] [(2,(qD Tryz.prog 46,.agg (List.replicate 32 (.i .u8 0))))] ver ((B2,.var (.arr 8 170) (.agg (s.map w6)))::jE B s (QH op) n))
  (fun k=>k.1≤8) (fun k=>k.1) (8,tk) ?_ ?_ ?_
 ·apply Le.of<;>simp[qU,qG,qO,qH,qP,qK,qF,qI,qJ,qN,jE,hbe]<;>try omega
 ·simp
 rintro⟨j,tk2⟩ ver2 hj KL2 hN2 hE2
 simp only at hj hN2
 refine qM (cf:=zk0) laid mixed _ _ _ (by kernel_rfl) ?_
 cases j with
 | succ j =>
  have hlb:(W9 n).length=8:=rfl
  have hst:=zhj n j (by omega)
  have e3:=zpG (n*8) (8*j) (by omega)
  have hst':((W9 n).map K3).take (8-j)=((W9 n).map K3).take (7-j)++[K3 (UInt8.ofNat (n*8 / 2 ^ (8*j)))]:=by
   rw[←List.map_take,hst,List.map_append,List.map_take];rfl
  have e8:=znm (n*8 / 2 ^ (8*j))
  simp at e8
  have hge:(0:Int)≤8*(j:Int):=by omega
  push_cast at e3
  have hq:8*((j:Int)+1)-8=8*j:=by omega
  simp (disch:=omega) [zz,wB,e3,znm,hge,jE,hq,hB2,Int.mul_comm 8 (n:Int),zei]
  (repeat with_reducible refine om ?_)
  refine hN2 _ (j,45) ?_ (by first|omega|(simp;done)|(simp;omega)) (by first|omega|(simp;done)|(simp;omega));apply Le.of<;>simp[qU,qG,qO,qH,qP,qK,qF,qI,qJ,qN,hst',e8,jE,hbe]<;>try omega
 | zero =>
  simp (disch:=omega) [zz,jE]
  refine hE2 _ _ (by simp) ?_
  obtain⟨T,hT⟩:∃T,JC op n=T:=⟨_,rfl⟩
  have hTm:T.length % 64=0:=by
   rw[←hT];simp[JC,W9];omega
  obtain⟨M,hM⟩:∃M,T.length=64*M:=⟨T.length / 64,by omega⟩
  have hTl:T.length≤200:=by rw[←hT];simp[JC,W9];omega
  have hTM:T.length / 64=M:=by omega
  have hTe:List.map K3 op++K3 128::(List.replicate (xD op.length) (K3 0)++List.take 8 (List.map K3 (W9 n)))=List.map K3 T:=by
   rw[←hT];simp[JC,W9]
  rw[hT,hTM]
  clear hE2 hN2
  simp (disch:=omega) [zz,jE,hTe]
  refine AT.loopV (α:=Nat) (fun k ver=>St.of [(0,.av .ptr (.ptr B U0 [])),(2,.loc 2 []),(3,.av .ptr (.ptr B2 (.arr 8 170) [])),(4,.av (.slice 5) (QH (T.drop (64*k))))] [(2,(qD Tryz.prog 46,.agg (List.replicate 32 (.i .u8 0))))] ver ((B2,.var (.arr 8 170) (.agg ((ZX s T k).map w6)))::jE B s (QH op) n))
   (fun k=>k≤M) (fun k=>M-k) 0 ?_ ?_ ?_
  ·apply Le.of<;>simp[qU,qG,qO,qH,qP,qK,qF,qI,qJ,qN,jE,hbe,ZX]<;>try omega
  ·simp
  rintro k ver3 hk KL3 hN3 hE3
  have hkl:=zaB T hs k
  refine qM (cf:=zk0) laid mixed _ _ _ (by kernel_rfl) ?_
  by_cases hlt:k<M
  ·obtain⟨R,hR⟩:∃R,T.drop (64*k)=R:=⟨_,rfl⟩
   have hRl:R.length=T.length-64*k:=by rw[←hR];simp
   have hn1:ZX s T (k+1)=jR (ZX s T k) (R.take 64):=by rw[ZX,hR]
   have hn2:T.drop (64*(k+1))=R.drop 64:=by rw[←hR,List.drop_drop];congr 1
   rw[hR]
   have hpos:0<R.length:=by omega
   simp (disch:=omega) [zz,jE,hbe,hpos]
   (repeat with_reducible refine om ?_)
   refine qE (R:=fun r H'=>r=.tup []∧H'=[(B2,.var (.arr 8 170) (.agg ((jR (ZX s T k) (R.take 64)).map w6)))]) [(B2,.var (.arr 8 170) (.agg ((ZX s T k).map w6)))] (jE B s (QH op) n) (by simp[jE,hbe]) rfl (by simp[qQ]) (by simp) ?_ ?_
   ·have:=zkR B2 (ZX s T k) (R.take 64) hkl (by simp;omega)
    simpa[jE,hbe,TV.er,AV.er,AV.ers_eq,AV.erk,AV.erks,AV.erks_eq,q8.er_cons,q8.er_nil,HObj.er_var,Function.comp_def,Tok.k]using this
   ·rintro r H' ⟨rfl,rfl⟩ _
    refine⟨_,HSub.refl _,?_⟩
    simp (disch:=omega) [zz,jE,hbe]
    (repeat with_reducible refine om ?_)
    have htk:List.take R.length (List.map K3 R)=List.map K3 R:=List.take_of_length_le (by simp)
    refine hN3 _ (k+1) ?_ (by omega) (by omega)
    rw[hn1,hn2]
    refine Le.ofW ?_ ?_ ?_ ?_ ?_<;>simp[qU,qG,zbx,C4,zca,zbn,zk8,zfd,zbU,gE,cB,qO,qH,qP,qK,qF,qI,qJ,qN,jE,hbe,htk]<;>try omega
  ·obtain rfl:k=M:=by omega
   have hdn:T.drop (64*k)=[]:=List.drop_eq_nil_of_le (by omega)
   rw[hdn]
   simp (disch:=omega) [zz,jE,hbe]
   refine hE3 _ _ (by simp) ?_
   simp (disch:=omega) [zz,jE]
   obtain⟨D,hD⟩:∃D,WM (ZX s T k)=D:=⟨_,rfl⟩
   have hDl:D.length=32:=by rw[←hD];exact zdN _
   refine AT.loopV (α:=Nat) (fun j ver=>St.of [(2,.loc 2 []),(3,.av .ptr (.ptr B2 (.arr 8 170) [])),(6,.loc 6 []),(54,.av (.int .i64) (.i .i64 j))] [(2,(qD Tryz.prog 46,.agg (List.replicate 32 (.i .u8 0)))),(6,(qD Tryz.prog 46,.agg ((D.take j++List.replicate (32-j) 0).map K3)))] ver ((B2,.var (.arr 8 170) (.agg ((ZX s T k).map w6)))::jE B s (QH op) n))
    (fun j=>j≤32) (fun j=>32-j) 0 ?_ ?_ ?_
   ·apply Le.of<;>simp[qU,qG,qO,qH,qP,qK,qF,qI,qJ,qN,zbY,jE,hbe]<;>try omega
   ·simp
   ·rintro j ver4 hj KL4 hN4 hE4
    refine qM (cf:=zk0) laid mixed _ _ _ (by kernel_rfl) ?_
    by_cases hjt:j<32
    ·obtain⟨q,hq⟩:∃q:Nat,j / 4=q:=⟨_,rfl⟩
     obtain⟨r,hr⟩:∃r:Nat,j % 4=r:=⟨_,rfl⟩
     have hq':(j:Int).tdiv 4=(q:Int):=by rw[Int.tdiv_eq_ediv_of_nonneg (by omega)];omega
     have hr':(j:Int).tmod 4=(r:Int):=by rw[Int.tmod_eq_emod_of_nonneg (by omega)];omega
     have hjt':(j:Int)<32:=by omega
     obtain⟨x,hx⟩:∃x,(ZX s T k)[q]?=some x:=⟨_,List.getElem?_eq_getElem (by omega)⟩
     have hDj:D[j]?=some (x >>> UInt32.ofNat (24-8*r)).toUInt8:=by
      rw[←hD]
      simp[WM,hjt,hq,hr,hx]
     have hsq:((D.take j++List.replicate (32-j) 0).map K3).set j (K3 (x >>> UInt32.ofNat (24-8*r)).toUInt8)=(D.take (j+1)++List.replicate (32-(j+1)) 0).map K3:=by
      rw[←List.map_set,List.take_add_one,hDj,show 32-j=(32-(j+1))+1 by omega,List.replicate_succ]
      simp[List.set_append_right,hDl,Nat.min_eq_left (Nat.le_of_lt hjt)]
     generalize ZX s T k=H at *
     have hy:=zrH (x >>> UInt32.ofNat (24-8*r))
     generalize (x >>> UInt32.ofNat (24-8*r)).toUInt8=y at *
     have gx:∀g:q<H.length,H[q]=x:=fun g=>by rw[List.getElem?_eq_getElem g]at hx;simpa using hx
     simp (disch:=omega) [zz,hjt',hq',hr',gx,uU,hy,jE]
     (repeat with_reducible refine om ?_)
     simp only[List.map_append,List.map_take,List.map_replicate,zbY]at hsq
     refine hN4 _ (j+1) ?_ (by first|omega|(simp;done)|(simp;omega)) (by first|omega|(simp;done)|(simp;omega));apply Le.of<;>simp[qU,qG,qO,qH,qP,qK,qF,qI,qJ,qN,hsq,zbY,jE]<;>try omega
    ·obtain rfl:j=32:=by omega
     simp (disch:=omega) [zz]
     refine hE4 _ _ (by simp) ?_
     simp (disch:=omega) [zz,Tryz.f161,jE]
     rw[hD,zmR,List.take_of_length_le (by simp[hDl])]
     simp[AV.ers_eq,Function.comp_def,AV.er,AV.erk,AV.erks_eq,hbe,Tok.k]
theorem GQ (t:List UInt8) (q:Nat):∀m,QA t (q+m)=ZX (QA t q) (t.drop (64*q)) m
 | 0=>rfl
 | m+1=>by
  rw[←Nat.add_assoc,QA,ZX,GQ t q m,List.drop_drop]
  congr 3;omega
theorem zbG (l:List UInt8):(zJo l).drop (64*(l.length / 64))=JC (l.drop (64*(l.length / 64))) l.length:=by
 have hp:xD (l.length-64*(l.length / 64))=xD l.length:=by unfold xD;omega
 have h0:64*(l.length / 64)≤l.length:=by omega
 simp only[zJo,JC,List.length_drop,hp,List.append_assoc]
 rw[List.drop_append_of_le_length h0]
theorem zgU (l:List UInt8):WM (ZX (QA l (l.length / 64)) (JC (l.drop (64*(l.length / 64))) l.length) ((JC (l.drop (64*(l.length / 64))) l.length).length / 64))=sha l:=by
 have hm:=zeC l
 have hs:=zbG l
 have hlen:(zJo l).length / 64=l.length / 64+(JC (l.drop (64*(l.length / 64))) l.length).length / 64:=by
  rw[←hs,List.length_drop]
  have:l.length≤(zJo l).length:=by simp[zJo]
  omega
 have ha:QA (zJo l) (l.length / 64)=QA l (l.length / 64):=by
  have:zJo l=l++([128]++List.replicate (xD l.length) 0++W9 l.length):=by simp[zJo]
  rw[this]
  exact za3 (by omega)
 rw[sha,hlen,GQ,hs,ha]

def zfI (l:List UInt8):AV:=.sl .no [.s l]
set_option maxHeartbeats 4000000 in
theorem znJ (l:List UInt8) (hl:l.length≤1000000000000):PC Tryz.prog 106 [.av (.slice 9) (zfI l)] (.av (qD Tryz.prog 46) (KW (sha l))):=by
 have hbe:∀x,QH x=.sl .no (x.map K3):=fun _=>rfl
 refine zow Tryz.func106 cf0 fun imm0 w0=>?_
 simp (disch:=omega) [zz,zfI]
 refine jP (R:=fun r H'=>∃B,r=.av .ptr (.ptr B U0 [])∧H'=jE B h8 (.sl .full []) 0) rfl (by simp[qQ]) (by simp) ?_ ?_
 ·simpa[q8.er_nil]using zjf
 rintro r H' ⟨B,rfl,rfl⟩
 simp (disch:=omega) [zz,jE]
 refine AT.loopV (α:=Nat) (fun k ver=>St.of [(2,.loc 2 []),(3,.av .ptr (.ptr B U0 [])),(7,.av (.slice 9) (.sl .no [.s l])),(8,.av (.int .i64) (.i .i64 1)),(9,.av (.int .i64) (.i .i64 k))] [(2,(qD Tryz.prog 46,.agg (List.replicate 32 (.i .u8 0))))] ver
   (match k with|0=>jE B h8 (.sl .full []) 0|_+1=>jE B (QA l (l.length / 64)) (QH (l.drop (64*(l.length / 64)))) l.length))
  (fun k=>k≤1) (fun k=>1-k) 0 ?_ ?_ ?_
 ·apply Le.of<;>simp[qU,qG,qO,qH,qP,qK,qF,qI,qJ,qN,jE]<;>try omega
 ·simp
 rintro k ver hk KL hN hE
 refine qM (cf:=cf0) laid mixed _ _ _ (by kernel_rfl) ?_
 cases k with
 | zero =>
  simp (disch:=omega) [zz,jE]
  refine jP (R:=fun r H'=>r=.tup []∧H'=jE B (QA l (l.length / 64)) (QH (l.drop (64*(l.length / 64)))) l.length) rfl (by simp[qQ]) (by simp) ?_ ?_
  ·have:=ziZ B l hl
   simpa[jE,TV.er,AV.er,AV.ers_eq,AV.erk,AV.erks,AV.erks_eq,q8.er_cons,q8.er_nil,HObj.er_var,Function.comp_def,Tok.k]using this
  ·rintro r H' ⟨rfl,rfl⟩
   simp (disch:=omega) [zz,jE]
   refine hN _ 1 ?_ (by first|omega|(simp;done)|(simp;omega)) (by first|omega|(simp;done)|(simp;omega));apply Le.of<;>simp[qU,qG,qO,qH,qP,qK,qF,qI,qJ,qN,jE]<;>try omega
 | succ k =>
  obtain rfl:k=0:=by omega
  simp (disch:=omega) [zz,jE]
  refine hE _ _ (by simp) ?_
  simp (disch:=omega) [zz,jE]
  refine jP (R:=fun r H'=>r=.av (qD Tryz.prog 46) (KW (sha l))∧H'=jE B (QA l (l.length / 64)) (QH (l.drop (64*(l.length / 64)))) l.length) rfl (by simp[qQ]) (by simp) ?_ ?_
  ·have:=zkt B (QA l (l.length / 64)) (l.drop (64*(l.length / 64))) l.length (gT l _) (by simp;omega) hl
   rw[zgU]at this
   simpa[jE,TV.er,AV.er,AV.ers_eq,AV.erk,AV.erks,AV.erks_eq,q8.er_cons,q8.er_nil,HObj.er_var,Function.comp_def,Tok.k]using this
  ·rintro r H' ⟨rfl,rfl⟩
   simp (disch:=omega) [zz,Tryz.f106]
end Go.Proofs.YtcioeonlclpacaaGreatDoor
end
