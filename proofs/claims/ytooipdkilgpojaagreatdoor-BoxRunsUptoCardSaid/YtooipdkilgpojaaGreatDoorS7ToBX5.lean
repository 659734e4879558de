/- The program's SHA-256: a hash of nothing, bytes added, the sum. No condition beyond each theorem's own. -/
import Derived.Test.YtooipdkilgpojaaGreatDoorS4ToS6
import Derived.Test.YtooipdkilgpojaaGreatDoorS3ToBX1
import Derived.Test.YtooipdkilgpojaaGreatDoorBX4ToBX6
import Derived.Test.YtooipdkilgpojaaGreatDoorBR0ToKK1
set_option linter.unusedSimpArgs false
set_option linter.unusedVariables false
set_option linter.unusedSectionVars false
section
set_option maxRecDepth 100000
namespace Go.Proofs.YtooipdkilgpojaaGreatDoor
open Go Go.Ab
open Classical
variable [Sel]
@[simp] theorem zo8:qZ Tryz.prog 90=true:=by kernel_rfl
@[simp] theorem zsm:z8 Tryz.prog (.func 90)=false:=q9 zo8
@[simp] theorem zIr:qZ Tryz.prog 91=true:=by kernel_rfl
@[simp] theorem zs0:z8 Tryz.prog (.func 91)=false:=q9 zIr
@[simp] theorem znO:qZ Tryz.prog 92=true:=by kernel_rfl
@[simp] theorem zrl:z8 Tryz.prog (.func 92)=false:=q9 znO
@[simp] theorem zyr:qZ Tryz.prog 46=true:=by kernel_rfl
@[simp] theorem zyx:z8 Tryz.prog (.func 46)=false:=q9 zyr
abbrev zpn:Cfg:=⟨fun n=>n==3,fun _=>false⟩
noncomputable abbrev U0:TyD:=qD Tryz.prog 203
noncomputable def jE (B:Nat) (s:List UInt32) (op:AV) (n:Nat):q8:=[(B,.var U0 (.agg [.agg (s.map w6),op,.i .u64 n]))]
theorem zjf:q7 Tryz.prog 90 [] [] fun r H'=>∃B,r=.av .ptr (.ptr B U0 [])∧H'=jE B h8 (.sl .full []) 0:=by
 refine zov Tryz.func90 zpn fun imm0 w0=>?_
 simp (disch:=omega) [zz]
 refine qL zjO rfl rfl (by simp) (by simp[qS]) ?_
 simp (disch:=omega) [zz]
 intro B
 simp (disch:=omega) [zz,Tryz.f90]
 simp[jE,AV.erks_eq,Function.comp_def,AV.erk]

theorem za3 {t u:List UInt8}:∀ {n:Nat},64*n≤t.length→QA (t++u) n=QA t n
 | 0,_=>rfl
 | n+1,h=>by
  rw[QA,QA,za3 (by omega),List.drop_append_of_le_length (by omega),List.take_append_of_le_length (by simp;omega)]

abbrev znp:Cfg:=⟨fun _=>false,fun n=>n==39⟩
set_option maxHeartbeats 4000000 in
theorem ziZ (B:Nat) (l:List UInt8) (hl:l.length≤1000000000000) :
  q7 Tryz.prog 91 [.av .ptr (.ptr B U0 []),.av .str (.s l)] (jE B h8 (.sl .full []) 0) fun r H'=>r=.tup []∧H'=jE B (QA l (l.length / 64)) (X1 (l.drop (64*(l.length / 64)))) l.length:=by
 have hbe:∀x,X1 x=.sl .no (x.map K3):=fun _=>rfl
 refine zov Tryz.func91 znp fun imm0 w0=>?_
 simp (disch:=omega) [zz,jE,zei,wB]
 (repeat with_reducible refine om ?_)
 refine AT.loopV (α:=Nat) (fun k ver=>St.of [(0,.av .ptr (.ptr B U0 []))] [] ver (jE B (QA l k) (X1 (l.drop (64*k))) l.length))
  (fun k=>64*k≤l.length) (fun k=>l.length-64*k) 0 ?_ ?_ ?_
 ·refine Le.ofW ?_ ?_ ?_ ?_ ?_<;>simp[qU,qG,zbx,C4,zca,zbn,zk8,zfd,zbU,gE,cB,qO,qH,qP,qK,qF,qI,qJ,qN,jE,QA,hbe]<;>try omega
 ·simp
 ·rintro k ver hk KL hN hE
  obtain⟨R,hR⟩:∃R,l.drop (64*k)=R:=⟨_,rfl⟩
  have hRl:R.length=l.length-64*k:=by rw[←hR];simp
  have hkl:=gT l k
  have hn1:QA l (k+1)=jR (QA l k) (R.take 64):=by rw[QA,hR]
  have hn2:l.drop (64*(k+1))=R.drop 64:=by rw[←hR,List.drop_drop];congr 1
  rw[hR]
  obtain⟨S,hS⟩:∃S,QA l k=S:=⟨_,rfl⟩
  rw[hS]at hn1 hkl ⊢
  refine qM (cf:=znp) laid mixed _ _ _ (by kernel_rfl) ?_
  by_cases hlt:64≤R.length
  ·have hlt':(64:Int)≤R.length:=by omega
   simp (disch:=omega) [zz,jE,hbe,hlt']
   (repeat with_reducible refine om ?_)
   refine jP (R:=fun r H'=>r=.tup []∧H'=jE B (jR S (R.take 64)) (X1 R) l.length) rfl (by simp[qQ]) (by simp) ?_ ?_
   ·have:=zk1 B S (R.take 64) hkl (by simp;omega) (op:=X1 R) (nn:=.i .u64 l.length) (by simp) (by simp[AV.erk])
    simpa[jE,hbe,TV.er,AV.er,AV.ers_eq,AV.erk,AV.erks,AV.erks_eq,q8.er_cons,q8.er_nil,HObj.er_var,Function.comp_def,Tok.k]using this
   ·rintro r H' ⟨rfl,rfl⟩
    simp (disch:=omega) [zz,jE,hbe]
    (repeat with_reducible refine om ?_)
    refine hN _ (k+1) ?_ (by omega) (by omega)
    rw[hn1,hn2]
    have htk:List.take R.length (List.map K3 R)=List.map K3 R:=List.take_of_length_le (by simp)
    refine Le.ofW ?_ ?_ ?_ ?_ ?_<;>simp[qU,qG,zbx,C4,zca,zbn,zk8,zfd,zbU,gE,cB,qO,qH,qP,qK,qF,qI,qJ,qN,jE,hbe,htk]<;>try omega
  ·have hlt':¬(64:Int)≤R.length:=by omega
   have hk2:l.length / 64=k:=by omega
   simp (disch:=omega) [zz,jE,hbe,hlt']
   refine hE _ _ (by simp) ?_
   simp (disch:=omega) [zz,Tryz.f91,jE,hbe,hk2,hS,hR]
   simp[AV.erks_eq,Function.comp_def,AV.erk,Tok.k,AV.ers_eq,AV.er]

def ZX (s:List UInt32) (t:List UInt8):Nat→List UInt32
 | 0=>s
 | n+1=>jR (ZX s t n) ((t.drop (64*n)).take 64)
theorem zaB {s:List UInt32} (t:List UInt8) (hs:s.length=8):∀n,(ZX s t n).length=8
 | 0=>hs
 | n+1=>KJ (zaB t hs n)
def JC (op:List UInt8) (n:Nat):List UInt8:=op++[128]++List.replicate (xD op.length) 0++W9 n
abbrev zk0:Cfg:=⟨fun n=>n==3,fun _=>false⟩
theorem vX:∀l:List UInt8,bytesOf (l.map K3)=some l
 | []=>rfl
 | b::l=>by simp[bytesOf,vX l]
set_option maxHeartbeats 4000000 in
theorem zkt (B:Nat) (s:List UInt32) (op:List UInt8) (n:Nat) (hs:s.length=8) (hop:op.length<64) (hn:n≤1000000000000) :
  q7 Tryz.prog 92 [.av .ptr (.ptr B U0 [])] (jE B s (X1 op) n) fun r H'=>r=.av (qD Tryz.prog 69) (KW (WM (ZX s (JC op n) ((JC op n).length / 64))))∧H'=jE B s (X1 op) n:=by
 have hbe:∀x,X1 x=.sl .no (x.map K3):=fun _=>rfl
 refine q7.drop (R:=fun r H'=>r=.av (qD Tryz.prog 69) (KW (WM (ZX s (JC op n) ((JC op n).length / 64))))∧∃B2 o,H'=(B2,o)::jE B s (X1 op) n) ?_ ?_
 rotate_left
 ·rintro r H' ⟨rfl,B2,o,rfl⟩
  exact⟨_,List.sublist_cons_self _ _,rfl,rfl⟩
 have hp:=zm1 op.length
 refine zov Tryz.func92 zk0 fun imm0 w0=>?_
 simp (disch:=omega) [zz,jE,hbe]
 intro B2 hB2
 simp (disch:=omega) [zz,jE,hbe,vX,wB,hB2]
 (repeat with_reducible refine om ?_)
 refine AT.loopV (α:=Nat × Nat) (fun k ver=>St.of [(0,.av .ptr (.ptr B U0 [])),(2,.loc 2 []),(3,.av .ptr (.ptr B2 (.arr 8 174) [])),(4,.av (.slice 5) (.sl (.own k.2 (ver k.2)) ((op++[128]++List.replicate k.1 0).map K3)))] [(2,(qD Tryz.prog 69,.agg (List.replicate 32 (.i .u8 0))))] ver ((B2,.var (.arr 8 174) (.agg (s.map w6)))::jE B s (X1 op) n))
  (fun k=>k.1≤xD op.length) (fun k=>xD op.length-k.1) (0,23) ?_ ?_ ?_
 ·apply Le.of<;>simp[qU,qG,qO,qH,qP,qK,qF,qI,qJ,qN,zdJ,jE,hbe]<;>try omega
 ·simp
 rintro⟨k,tk⟩ ver hk KL hN hE
 simp only at hk hN
 refine qM (cf:=zk0) laid mixed _ _ _ (by kernel_rfl) ?_
 have hlen:((op.length:Int)+((k:Int)+1)).tmod 64=(((op.length+1+k) % 64:Nat):Int):=by
  rw[Int.tmod_eq_emod_of_nonneg (by omega)];omega
 by_cases hkt:k<xD op.length
 ·have hne:=zgX hkt
  have hne':¬((op.length:Int)+((k:Int)+1)).tmod 64=56:=by rw[hlen];omega
  simp (disch:=omega) [zz,wB,hne']
  (repeat with_reducible refine om ?_)
  refine hN _ (k+1,30) ?_ (by first|omega|(simp;done)|(simp;omega)) (by first|omega|(simp;done)|(simp;omega));apply Le.of<;>simp[qU,qG,qO,qH,qP,qK,qF,qI,qJ,qN,List.replicate_succ',zbY,zdJ]<;>try omega
 have hke:k=xD op.length:=by omega
 subst hke
 have hsp:=zba op.length
 have hne':((op.length:Int)+((xD op.length:Int)+1)).tmod 64=56:=by rw[hlen];omega
 simp (disch:=omega) [zz,hne']
 refine hE _ _ (by simp) ?_
 simp (disch:=omega) [zz,zei]
 refine AT.loopV (α:=Nat × Nat) (fun k ver=>St.of [(0,.av .ptr (.ptr B U0 [])),(2,.loc 2 []),(3,.av .ptr (.ptr B2 (.arr 8 174) [])),(4,.av (.slice 5) (.sl (.own k.2 (ver k.2)) ((op++[128]++List.replicate (xD op.length) 0++(W9 n).take (8-k.1)).map K3))),(5,.av (.int .i64) (.i .i64 (8*(k.1:Int)-8)))] [(2,(qD Tryz.prog 69,.agg (List.replicate 32 (.i .u8 0))))] ver ((B2,.var (.arr 8 174) (.agg (s.map w6)))::jE B s (X1 op) n))
  (fun k=>k.1≤8) (fun k=>k.1) (8,tk) ?_ ?_ ?_
 ·apply Le.of<;>simp[qU,qG,qO,qH,qP,qK,qF,qI,qJ,qN,jE,hbe]<;>try omega
 ·simp
 rintro⟨j,tk2⟩ ver2 hj KL2 hN2 hE2
 simp only at hj hN2
 refine qM (cf:=zk0) laid mixed _ _ _ (by kernel_rfl) ?_
 cases j with
 | succ j =>
  have hlb:(W9 n).length=8:=rfl
  have hst:=zhj n j (by omega)
  have e3:=zpG (n*8) (8*j) (by omega)
  have hst':((W9 n).map K3).take (8-j)=((W9 n).map K3).take (7-j)++[K3 (UInt8.ofNat (n*8 / 2 ^ (8*j)))]:=by
   rw[←List.map_take,hst,List.map_append,List.map_take];rfl
  have e8:=znm (n*8 / 2 ^ (8*j))
  simp at e8
  have hge:(0:Int)≤8*(j:Int):=by omega
  push_cast at e3
  have hq:8*((j:Int)+1)-8=8*j:=by omega
  simp (disch:=omega) [zz,wB,e3,znm,hge,jE,hq,hB2,Int.mul_comm 8 (n:Int),zei]
  (repeat with_reducible refine om ?_)
  refine hN2 _ (j,45) ?_ (by first|omega|(simp;done)|(simp;omega)) (by first|omega|(simp;done)|(simp;omega));apply Le.of<;>simp[qU,qG,qO,qH,qP,qK,qF,qI,qJ,qN,hst',e8,jE,hbe]<;>try omega
 | zero =>
  simp (disch:=omega) [zz,jE]
  refine hE2 _ _ (by simp) ?_
  obtain⟨T,hT⟩:∃T,JC op n=T:=⟨_,rfl⟩
  have hTm:T.length % 64=0:=by
   rw[←hT];simp[JC,W9];omega
  obtain⟨M,hM⟩:∃M,T.length=64*M:=⟨T.length / 64,by omega⟩
  have hTl:T.length≤200:=by rw[←hT];simp[JC,W9];omega
  have hTM:T.length / 64=M:=by omega
  have hTe:List.map K3 op++K3 128::(List.replicate (xD op.length) (K3 0)++List.take 8 (List.map K3 (W9 n)))=List.map K3 T:=by
   rw[←hT];simp[JC,W9]
  rw[hT,hTM]
  clear hE2 hN2
  simp (disch:=omega) [zz,jE,hTe]
  refine AT.loopV (α:=Nat) (fun k ver=>St.of [(0,.av .ptr (.ptr B U0 [])),(2,.loc 2 []),(3,.av .ptr (.ptr B2 (.arr 8 174) [])),(4,.av (.slice 5) (X1 (T.drop (64*k))))] [(2,(qD Tryz.prog 69,.agg (List.replicate 32 (.i .u8 0))))] ver ((B2,.var (.arr 8 174) (.agg ((ZX s T k).map w6)))::jE B s (X1 op) n))
   (fun k=>k≤M) (fun k=>M-k) 0 ?_ ?_ ?_
  ·apply Le.of<;>simp[qU,qG,qO,qH,qP,qK,qF,qI,qJ,qN,jE,hbe,ZX]<;>try omega
  ·simp
  rintro k ver3 hk KL3 hN3 hE3
  have hkl:=zaB T hs k
  refine qM (cf:=zk0) laid mixed _ _ _ (by kernel_rfl) ?_
  by_cases hlt:k<M
  ·obtain⟨R,hR⟩:∃R,T.drop (64*k)=R:=⟨_,rfl⟩
   have hRl:R.length=T.length-64*k:=by rw[←hR];simp
   have hn1:ZX s T (k+1)=jR (ZX s T k) (R.take 64):=by rw[ZX,hR]
   have hn2:T.drop (64*(k+1))=R.drop 64:=by rw[←hR,List.drop_drop];congr 1
   rw[hR]
   have hpos:0<R.length:=by omega
   simp (disch:=omega) [zz,jE,hbe,hpos]
   (repeat with_reducible refine om ?_)
   refine qE (R:=fun r H'=>r=.tup []∧H'=[(B2,.var (.arr 8 174) (.agg ((jR (ZX s T k) (R.take 64)).map w6)))]) [(B2,.var (.arr 8 174) (.agg ((ZX s T k).map w6)))] (jE B s (X1 op) n) (by simp[jE,hbe]) rfl (by simp[qQ]) (by simp) ?_ ?_
   ·have:=zkR B2 (ZX s T k) (R.take 64) hkl (by simp;omega)
    simpa[jE,hbe,TV.er,AV.er,AV.ers_eq,AV.erk,AV.erks,AV.erks_eq,q8.er_cons,q8.er_nil,HObj.er_var,Function.comp_def,Tok.k]using this
   ·rintro r H' ⟨rfl,rfl⟩ _
    refine⟨_,HSub.refl _,?_⟩
    simp (disch:=omega) [zz,jE,hbe]
    (repeat with_reducible refine om ?_)
    have htk:List.take R.length (List.map K3 R)=List.map K3 R:=List.take_of_length_le (by simp)
    refine hN3 _ (k+1) ?_ (by omega) (by omega)
    rw[hn1,hn2]
    refine Le.ofW ?_ ?_ ?_ ?_ ?_<;>simp[qU,qG,zbx,C4,zca,zbn,zk8,zfd,zbU,gE,cB,qO,qH,qP,qK,qF,qI,qJ,qN,jE,hbe,htk]<;>try omega
  ·obtain rfl:k=M:=by omega
   have hdn:T.drop (64*k)=[]:=List.drop_eq_nil_of_le (by omega)
   rw[hdn]
   simp (disch:=omega) [zz,jE,hbe]
   refine hE3 _ _ (by simp) ?_
   simp (disch:=omega) [zz,jE]
   obtain⟨D,hD⟩:∃D,WM (ZX s T k)=D:=⟨_,rfl⟩
   have hDl:D.length=32:=by rw[←hD];exact zdN _
   refine AT.loopV (α:=Nat) (fun j ver=>St.of [(2,.loc 2 []),(3,.av .ptr (.ptr B2 (.arr 8 174) [])),(6,.loc 6 []),(54,.av (.int .i64) (.i .i64 j))] [(2,(qD Tryz.prog 69,.agg (List.replicate 32 (.i .u8 0)))),(6,(qD Tryz.prog 69,.agg ((D.take j++List.replicate (32-j) 0).map K3)))] ver ((B2,.var (.arr 8 174) (.agg ((ZX s T k).map w6)))::jE B s (X1 op) n))
    (fun j=>j≤32) (fun j=>32-j) 0 ?_ ?_ ?_
   ·apply Le.of<;>simp[qU,qG,qO,qH,qP,qK,qF,qI,qJ,qN,zbY,jE,hbe]<;>try omega
   ·simp
   ·rintro j ver4 hj KL4 hN4 hE4
    refine qM (cf:=zk0) laid mixed _ _ _ (by kernel_rfl) ?_
    by_cases hjt:j<32
    ·obtain⟨q,hq⟩:∃q:Nat,j / 4=q:=⟨_,rfl⟩
     obtain⟨r,hr⟩:∃r:Nat,j % 4=r:=⟨_,rfl⟩
     have hq':(j:Int).tdiv 4=(q:Int):=by rw[Int.tdiv_eq_ediv_of_nonneg (by omega)];omega
     have hr':(j:Int).tmod 4=(r:Int):=by rw[Int.tmod_eq_emod_of_nonneg (by omega)];omega
     have hjt':(j:Int)<32:=by omega
     obtain⟨x,hx⟩:∃x,(ZX s T k)[q]?=some x:=⟨_,List.getElem?_eq_getElem (by omega)⟩
     have hDj:D[j]?=some (x >>> UInt32.ofNat (24-8*r)).toUInt8:=by
      rw[←hD]
      simp[WM,hjt,hq,hr,hx]
     have hsq:((D.take j++List.replicate (32-j) 0).map K3).set j (K3 (x >>> UInt32.ofNat (24-8*r)).toUInt8)=(D.take (j+1)++List.replicate (32-(j+1)) 0).map K3:=by
      rw[←List.map_set,List.take_add_one,hDj,show 32-j=(32-(j+1))+1 by omega,List.replicate_succ]
      simp[List.set_append_right,hDl,Nat.min_eq_left (Nat.le_of_lt hjt)]
     generalize ZX s T k=H at *
     have hy:=zrH (x >>> UInt32.ofNat (24-8*r))
     generalize (x >>> UInt32.ofNat (24-8*r)).toUInt8=y at *
     have gx:∀g:q<H.length,H[q]=x:=fun g=>by rw[List.getElem?_eq_getElem g]at hx;simpa using hx
     simp (disch:=omega) [zz,hjt',hq',hr',gx,uU,hy,jE]
     (repeat with_reducible refine om ?_)
     simp only[List.map_append,List.map_take,List.map_replicate,zbY]at hsq
     refine hN4 _ (j+1) ?_ (by first|omega|(simp;done)|(simp;omega)) (by first|omega|(simp;done)|(simp;omega));apply Le.of<;>simp[qU,qG,qO,qH,qP,qK,qF,qI,qJ,qN,hsq,zbY,jE]<;>try omega
    ·obtain rfl:j=32:=by omega
     simp (disch:=omega) [zz]
     refine hE4 _ _ (by simp) ?_
     simp (disch:=omega) [zz,Tryz.f92,jE]
     rw[hD,zmR,List.take_of_length_le (by simp[hDl])]
     simp[AV.ers_eq,Function.comp_def,AV.er,AV.erk,AV.erks_eq,hbe,Tok.k]
theorem GQ (t:List UInt8) (q:Nat):∀m,QA t (q+m)=ZX (QA t q) (t.drop (64*q)) m
 | 0=>rfl
 | m+1=>by
  rw[←Nat.add_assoc,QA,ZX,GQ t q m,List.drop_drop]
  congr 3;omega
theorem zbG (l:List UInt8):(K2 l).drop (64*(l.length / 64))=JC (l.drop (64*(l.length / 64))) l.length:=by
 have hp:xD (l.length-64*(l.length / 64))=xD l.length:=by unfold xD;omega
 have h0:64*(l.length / 64)≤l.length:=by omega
 simp only[K2,JC,List.length_drop,hp,List.append_assoc]
 rw[List.drop_append_of_le_length h0]
theorem zgU (l:List UInt8):WM (ZX (QA l (l.length / 64)) (JC (l.drop (64*(l.length / 64))) l.length) ((JC (l.drop (64*(l.length / 64))) l.length).length / 64))=sha l:=by
 have hm:=zeC l
 have hs:=zbG l
 have hlen:(K2 l).length / 64=l.length / 64+(JC (l.drop (64*(l.length / 64))) l.length).length / 64:=by
  rw[←hs,List.length_drop]
  have:l.length≤(K2 l).length:=by simp[K2]
  omega
 have ha:QA (K2 l) (l.length / 64)=QA l (l.length / 64):=by
  have:K2 l=l++([128]++List.replicate (xD l.length) 0++W9 l.length):=by simp[K2]
  rw[this]
  exact za3 (by omega)
 rw[sha,hlen,GQ,hs,ha]

def zfI (l:List UInt8):AV:=.sl .no [.s l]
set_option maxHeartbeats 4000000 in
theorem znJ (l:List UInt8) (hl:l.length≤1000000000000):PC Tryz.prog 46 [.av (.slice 9) (zfI l)] (.av (qD Tryz.prog 69) (KW (sha l))):=by
 have hbe:∀x,X1 x=.sl .no (x.map K3):=fun _=>rfl
 refine zow Tryz.func46 cf0 fun imm0 w0=>?_
 simp (disch:=omega) [zz,zfI]
 refine jP (R:=fun r H'=>∃B,r=.av .ptr (.ptr B U0 [])∧H'=jE B h8 (.sl .full []) 0) rfl (by simp[qQ]) (by simp) ?_ ?_
 ·simpa[q8.er_nil]using zjf
 rintro r H' ⟨B,rfl,rfl⟩
 simp (disch:=omega) [zz,jE]
 refine AT.loopV (α:=Nat) (fun k ver=>St.of [(2,.loc 2 []),(3,.av .ptr (.ptr B U0 [])),(7,.av (.slice 9) (.sl .no [.s l])),(8,.av (.int .i64) (.i .i64 1)),(9,.av (.int .i64) (.i .i64 k))] [(2,(qD Tryz.prog 69,.agg (List.replicate 32 (.i .u8 0))))] ver
   (match k with|0=>jE B h8 (.sl .full []) 0|_+1=>jE B (QA l (l.length / 64)) (X1 (l.drop (64*(l.length / 64)))) l.length))
  (fun k=>k≤1) (fun k=>1-k) 0 ?_ ?_ ?_
 ·apply Le.of<;>simp[qU,qG,qO,qH,qP,qK,qF,qI,qJ,qN,jE]<;>try omega
 ·simp
 rintro k ver hk KL hN hE
 refine qM (cf:=cf0) laid mixed _ _ _ (by kernel_rfl) ?_
 cases k with
 | zero =>
  simp (disch:=omega) [zz,jE]
  refine jP (R:=fun r H'=>r=.tup []∧H'=jE B (QA l (l.length / 64)) (X1 (l.drop (64*(l.length / 64)))) l.length) rfl (by simp[qQ]) (by simp) ?_ ?_
  ·have:=ziZ B l hl
   simpa[jE,TV.er,AV.er,AV.ers_eq,AV.erk,AV.erks,AV.erks_eq,q8.er_cons,q8.er_nil,HObj.er_var,Function.comp_def,Tok.k]using this
  ·rintro r H' ⟨rfl,rfl⟩
   simp (disch:=omega) [zz,jE]
   refine hN _ 1 ?_ (by first|omega|(simp;done)|(simp;omega)) (by first|omega|(simp;done)|(simp;omega));apply Le.of<;>simp[qU,qG,qO,qH,qP,qK,qF,qI,qJ,qN,jE]<;>try omega
 | succ k =>
  obtain rfl:k=0:=by omega
  simp (disch:=omega) [zz,jE]
  refine hE _ _ (by simp) ?_
  simp (disch:=omega) [zz,jE]
  refine jP (R:=fun r H'=>r=.av (qD Tryz.prog 69) (KW (sha l))∧H'=jE B (QA l (l.length / 64)) (X1 (l.drop (64*(l.length / 64)))) l.length) rfl (by simp[qQ]) (by simp) ?_ ?_
  ·have:=zkt B (QA l (l.length / 64)) (l.drop (64*(l.length / 64))) l.length (gT l _) (by simp;omega) hl
   rw[zgU]at this
   simpa[jE,TV.er,AV.er,AV.ers_eq,AV.erk,AV.erks,AV.erks_eq,q8.er_cons,q8.er_nil,HObj.er_var,Function.comp_def,Tok.k]using this
  ·rintro r H' ⟨rfl,rfl⟩
   simp (disch:=omega) [zz,Tryz.f46]
end Go.Proofs.YtooipdkilgpojaaGreatDoor
end
section
set_option maxRecDepth 100000
namespace Go.Proofs.YtooipdkilgpojaaGreatDoor
open Go Go.Ab
open Classical
variable [Sel] [SelPow] [SelMax]
theorem J3.split {q:J3} {b:zGo} (hq:q.OK b) (B:Nat):∃M:q8,q.core B b=(B,zO q.R b.outs (jA q.bo q.bi q.ba) q.W q.rd b.asks b.over b.why)::M∧M.er=M:=by
 obtain⟨_,hMe,hHe,_⟩:=hq.er B
 exact⟨(q.W,wrO b.wrote)::(q.M b++q.HR),rfl,by simp only[q8.er_cons,q8.er_app,hMe,hHe,QZ]⟩
theorem zci (B:Nat) {b:zGo} {H:q8} (hH:jJ B b H) :
  q7 Tryz.prog 17 [.av .ptr (.ptr B KD [])] H fun y H'=>y=.tup [(.str,.s (if b.over=true then [] else b.asks)),(.bool,.b (!b.over))]∧jJ B b H':=by
 obtain⟨q,hq,rfl⟩:=hH
 obtain⟨_,_,_,hre⟩:=hq.er B
 obtain⟨M,hM,hMe⟩:=J3.split hq B
 refine q7.sub (R:=fun y H'=>y=.tup [(.str,.s (if b.over=true then [] else b.asks)),(.bool,.b (!b.over))]∧∃H2,Ab.HSub H2 H'∧H2=q.core B b) ?_ fun y H' ⟨h1,H2,h2,h3⟩ _=>⟨H2,h2,h1,q,hq,h3⟩
 rw[hM]
 obtain⟨ov,hov⟩:∃ov,ov=b.over:=⟨_,rfl⟩
 rw[←hov]
 cases ov with
 | true =>
  refine zov Tryz.func17 cf0 fun imm0 w0=>?_
  simp (disch:=omega) [zz,zO]
  simp (disch:=omega) [zz,hMe,hre,jA,Tryz.f17]
  exact HSub.refl _
 | false =>
  refine zov Tryz.func17 cf0 fun imm0 w0=>?_
  simp (disch:=omega) [zz,zO]
  simp (disch:=omega) [zz,hMe,hre,jA,Tryz.f17]
  exact HSub.refl _
abbrev zro:Cfg:=⟨fun _=>false,fun n=>n==5⟩
theorem zfz (l:List XF) (b cap:Nat) (j:List AV) (hj:JK j) (hcap:l.length+j.length=cap) (hn:l.length≤1000) :
  q7 Tryz.prog 48 [.av (.slice 79) (.msl b 79 0 l.length cap)] [(b,kR cap l j)]
   fun r H'=>r=.av (.slice 79) (qF l)∧H'=[(b,kR cap l j)]:=by
 have htk:(l.map qI++j).take l.length=l.map qI:=by rw[List.take_append_of_le_length (by simp)];exact List.take_of_length_le (by simp)
 have her:AV.erks (l.map qI++j)=l.map qI++j:=JK.app (UF l) hj
 have h1:q7 Tryz.prog 48 [.av (.slice 79) (.msl b 79 0 l.length cap)] [(b,kR cap l j)]
   fun r H'=>∃b' cap' j',JK j'∧l.length+j'.length=cap'∧r=.av (.slice 79) (.msl b' 79 0 l.length cap')∧H'=[(b',kR cap' l j'),(b,kR cap l j)]:=by
  refine q7.sub (R:=fun r H'=>∃b' cap' j',JK j'∧l.length+j'.length=cap'∧r=.av (.slice 79) (.msl b' 79 0 l.length cap')∧HSub [(b',kR cap' l j'),(b,kR cap l j)] H') ?_ fun r H' ⟨b',cap',j',h1,h2,h3,h4⟩ _=>⟨_,h4,b',cap',j',h1,h2,h3,rfl⟩
  refine zov Tryz.func48 zro fun imm0 w0=>?_
  simp (disch:=omega) [zz,-List.reduceReplicate,kR]
  intro b5 hb5
  simp (disch:=omega) [zz,-List.reduceReplicate,hb5,htk]
  have hb5':¬b=b5:=fun e=>hb5 e.symm
  refine⟨by omega,⟨by omega,by omega⟩,fun h0=>?_,fun h0 b' cap' h1 h2 hc=>?_⟩
  ·have:l=[]:=by
    rcases h0 with h0|h0
    ·exact h0
    ·simpa using h0.1
   subst this
   (simp (maxSteps:=2000000) (disch:=first|omega|assumption) [zz,-List.reduceReplicate,Tryz.f48,hj,her])
   refine⟨b5,0,[],JK.nil,by simp,by simp,HSub.of_sub ?_⟩
   have:AV.erks j=j:=hj
   simp[this]
  ·have hz:=JK.app (UF l) (JK.rep (z:=.agg [.s [],.b false,.agg (List.replicate 32 (.i .u8 0))]) (by rfl) (cap'-l.length))
   unfold JK at hz
   (simp (maxSteps:=2000000) (disch:=first|omega|assumption) [zz,-List.reduceReplicate,Tryz.f48,hz,her])
   refine⟨b',cap',List.replicate (cap'-l.length) (.agg [.s [],.b false,.agg (List.replicate 32 (.i .u8 0))]),JK.rep rfl _,by simp;omega,⟨rfl,rfl⟩,⟨_,List.Perm.refl _,?_⟩⟩
   exact((List.Sublist.refl _).cons _).cons_cons _
 refine h1.freeze laid ?_
 rintro r H' ⟨b',cap',j',hj',hc',rfl,rfl⟩ _
 left
 refine⟨b',cap',79,_,[(b,kR cap l j)],List.Perm.refl _,?_,rfl⟩
 simp only[zho,fzA]
 rw[if_pos ⟨trivial,trivial,by omega,by omega⟩]
 simp only[List.drop_zero]
 rw[List.take_append_of_le_length (by simp),List.take_of_length_le (by simp)]
 rfl
theorem zfo (l:List XF) (rd:AV) (RD:q8) (h:cM l rd RD) (hn:l.length≤1000) :
  q7 Tryz.prog 48 [.av (.slice 79) rd] RD fun r H'=>r=.av (.slice 79) (qF l)∧H'=RD:=by
 rcases h with⟨rfl,rfl,rfl⟩|⟨T,cap,j,hj,rfl,hc,rfl⟩
 ·refine zov Tryz.func48 cf0 fun imm0 w0=>?_
  simp (disch:=omega) [zz,Tryz.f48,qF]
 ·exact zfz l T cap j hj hc hn
def tkS (s k:Nat):Tok:=match k with|0=>.full|k+1=>.own s (k+1)
noncomputable def foB (l:List (Txt × Txt)) (p:Txt):U1:=⟨p,((l.find? fun x=>decide (x.1=p)).getD ([],[])).2⟩
abbrev zhS:Cfg:=⟨fun _=>false,fun n=>n==52⟩
set_option maxHeartbeats 16000000 in
theorem QN (B:Nat) {b:zGo} {H:q8} (hH:jJ B b H) (hr:b.reads.length≤1000) (hw:b.wrote.length≤1000000) :
  q7 Tryz.prog 19 [.av .ptr (.ptr B KD [])] H fun y H'=>y=.tup [(qD Tryz.prog 41,zI (yD b).1),(.bool,.b (yD b).2)]∧jJ B b H':=by
 obtain⟨q,hq,rfl⟩:=hH
 obtain⟨_,hMe0,hHe,hre⟩:=hq.er B
 refine q7.sub (R:=fun y H'=>y=.tup [(qD Tryz.prog 41,zI (yD b).1),(.bool,.b (yD b).2)]∧∃H2,Ab.HSub H2 H'∧H2=q.core B b) ?_ fun y H' ⟨h1,H2,h2,h3⟩ _=>⟨H2,h2,h1,q,hq,h3⟩
 by_cases ho:b.over=true
 rotate_left
 ·have ho':b.over=false:=by simpa using ho
  obtain⟨M,hM,hMe⟩:=J3.split hq B
  rw[hM]
  refine zov Tryz.func19 zhS fun imm0 w0=>?_
  simp (disch:=omega) [zz,zO,ho']
  simp (disch:=omega) [zz,hMe,hre,jA,Tryz.f19,yD,ho',zI,zU,qF]
  exact HSub.refl _
 refine q7.nodup fun hnd=>?_
 simp[J3.core,q8.keys]at hnd
 obtain⟨⟨n1,n2⟩,n3⟩:=hnd
 have n1':¬q.W=B:=fun e=>n1 e.symm
 obtain⟨M,hM⟩:∃M:q8,M=W8 q.bo q.bi q.ba b.outs q.ins q.ask++q.HR:=⟨_,rfl⟩
 have hMe:M.er=M:=by rw[hM,q8.er_app,hHe,vQ]
 have hp1:(q.core B b).Perm ((B,zO q.R b.outs (jA q.bo q.bi q.ba) q.W q.rd b.asks b.over b.why)::(q.W,wrO b.wrote)::(q.RD++M)):=by
  refine List.perm_iff_count.2 fun a=>?_
  simp only[J3.core,J3.M,hM,List.count_append,List.count_cons];omega
 have hRe:=hq.reads.er.1
 have hcl:=zfo b.reads q.rd q.RD hq.reads hr
 have hwe:=QZ b.wrote
 have hers:AV.ers (b.reads.map qI)=b.reads.map qI:=by simp[AV.ers_eq,Function.comp_def]
 refine q7.perm hp1 ?_
 obtain⟨rd,hrd⟩:∃rd,rd=q.rd:=⟨_,rfl⟩
 have hrer:rd.er=rd:=by
  rw[hrd]
  rcases hq.reads with⟨_,e,_⟩|⟨T,cap,j,_,e,_⟩<;>rw[e]<;>rfl
 rw[←hrd]at hcl hre hp1 ⊢
 have back:∀H':q8,Ab.HSub ((B,zO q.R b.outs (jA q.bo q.bi q.ba) q.W rd b.asks b.over b.why)::(q.W,wrO b.wrote)::(q.RD++M)) H'→Ab.HSub (q.core B b) H':=fun H' h=>YX (HSub.of_perm hp1.symm) h
 have hcp:((B,zO q.R b.outs (jA q.bo q.bi q.ba) q.W rd b.asks b.over b.why)::(q.W,wrO b.wrote)::(q.RD++M)).Perm (q.RD++(B,zO q.R b.outs (jA q.bo q.bi q.ba) q.W rd b.asks b.over b.why)::(q.W,wrO b.wrote)::M):=by
  refine List.perm_iff_count.2 fun a=>?_
  simp only[List.count_append,List.count_cons];omega
 by_cases hy:b.why=0
 rotate_left
 ·refine zov Tryz.func19 zhS fun imm0 w0=>?_
  simp (disch:=omega) [zz,zO,ho,n1,n1']
  (repeat with_reducible refine om ?_)
  refine UL (r:=.av (.slice 79) (qF b.reads)) (bs:=[.av (.slice 79) rd]) q.RD ((B,zO q.R b.outs (jA q.bo q.bi q.ba) q.W rd b.asks b.over b.why)::(q.W,wrO b.wrote)::M) ?_ (by rw[hRe];exact hcl) rfl (by simp[qQ]) (by simp) ?_ ?_
  ·simpa[zO,ho]using hcp
  ·simp[qS,TV.er,hrer]
  simp (disch:=omega) [zz,zO,ho,hy,n1,n1']
  have hme:(jA q.bo q.bi q.ba).erk=jA q.bo q.bi q.ba:=rfl
  have ho1:yD b=(⟨2,b.why,[],b.reads⟩,true):=by unfold yD;rw[if_neg (by rw[ho];decide),if_neg hy]
  simp (disch:=omega) [zz,hMe,hRe,hre,hwe,hme,ho1,hers,zI,zU,qF,Tryz.f19,ho]
  (repeat with_reducible refine om ?_)
  refine back _ ?_
  simp only[zO,ho]
  exact HSub.refl _
 ·refine zov Tryz.func19 zhS fun imm0 w0=>?_
  simp (disch:=omega) [zz,zO,ho,n1,n1']
  (repeat with_reducible refine om ?_)
  refine UL (r:=.av (.slice 79) (qF b.reads)) (bs:=[.av (.slice 79) rd]) q.RD ((B,zO q.R b.outs (jA q.bo q.bi q.ba) q.W rd b.asks b.over b.why)::(q.W,wrO b.wrote)::M) ?_ (by rw[hRe];exact hcl) rfl (by simp[qQ]) (by simp) ?_ ?_
  ·simpa[zO,ho]using hcp
  ·simp[qS,TV.er,hrer]
  simp (disch:=omega) [zz,zO,ho,hy,n1,n1']
  (repeat with_reducible refine om ?_)
  have hme:(jA q.bo q.bi q.ba).erk=jA q.bo q.bi q.ba:=rfl
  have ho1:yD b=(⟨1,0,ZH b,b.reads⟩,true):=by unfold yD;rw[if_neg (by rw[ho];decide),if_pos hy]
  obtain⟨bo,hbo⟩:∃bo,bo=zO q.R b.outs (jA q.bo q.bi q.ba) q.W rd b.asks b.over b.why:=⟨_,rfl⟩
  have hbo':HObj.var KD (.agg [.ptr q.R kQ [],.sl .no (strs b.outs),jA q.bo q.bi q.ba,.map (some q.W),rd,.s b.asks,.b true,.i .i64 0])=bo:=by rw[hbo,zO,ho,hy]
  have hboe:bo.er=bo:=by rw[hbo];exact J2 hme hre
  rw[←hbo]at back
  have hbo2:=hbo'
  refine qE (R:=fun r H'=>∃c,r=.av .func (.fn 95 [.ptr c WrT []])∧H'=[(c,wbO q.W)]) [] ((B,bo)::(q.W,wrO b.wrote)::(q.RD++M)) (by rw[←hbo'];exact List.Perm.refl _) rfl (by simp[qQ]) (by simp) ?_ ?_
  ·have:=zk4 q.W
   simpa[TV.er,AV.er,AV.ers,q8.er_nil]using this
  rintro r' H' ⟨c,rfl,rfl⟩ hnd
  simp[q8.keys]at hnd
  have hcW:c≠q.W:=hnd.1.2.1
  have hcB:¬c=B:=hnd.1.1
  have hcB':¬B=c:=fun e=>hcB e.symm
  refine⟨_,HSub.refl _,?_⟩
  simp (disch:=omega) [zz]
  have hwb:(wbO q.W).er=wbO q.W:=rfl
  obtain⟨ks,hks⟩:∃ks,ks=kK (b.wrote.map (·.1)):=⟨_,rfl⟩
  have hkl:ks.length≤1000000:=by rw[hks,ZO];simpa using hw
  refine qE (R:=wS (b.wrote.map (·.1)) [(q.W,wrO b.wrote),(c,wbO q.W)]) [(q.W,wrO b.wrote),(c,wbO q.W)] ((B,bo)::(q.RD++M)) ?_ rfl (by simp[qQ]) (by simp) ?_ ?_
  ·refine List.perm_iff_count.2 fun a=>?_
   simp only[List.count_append,List.count_cons,List.count_nil];omega
  ·have:=ze9 (zz8 c q.W hcW b.wrote) (by simpa using hw)
   simpa[TV.er,AV.er,AV.ers,q8.er_cons,q8.er_nil,hwe,hwb]using this
  rintro r' H' ⟨v,H1,rfl,hrow,rfl⟩ hnd2
  rw[←hks]at hrow
  have hmem:∀p∈ks,p∈b.wrote.map (·.1):=fun p hp=>by rw[hks]at hp;exact(W0 _).mem_iff.1 hp
  have hob:ZH b=ks.map (foB b.wrote):=by rw[hks];rfl
  rcases hrow with⟨hk0,rfl,rfl⟩|⟨T,cap,j,hj,rfl,hcap,rfl⟩
  ·refine⟨(B,bo)::(q.W,wrO b.wrote)::(q.RD++M),⟨(c,wbO q.W)::(B,bo)::(q.W,wrO b.wrote)::(q.RD++M),?_,(List.Sublist.refl _).cons _⟩,?_⟩
   ·refine List.perm_iff_count.2 fun a=>?_
    simp only[List.count_append,List.count_cons,List.count_nil];omega
   simp (disch:=omega) [zz]
   rw[←hbo2]
   refine AT.loop' (α:=Nat) (fun k=>St.of [(0,.av .ptr (.ptr B KD [])),(2,.loc 2 []),(4,.loc 4 []),(35,.av (.int .i64) (.i .i64 0)),(36,.av (.int .i64) (.i .i64 k))] [(2,(qD Tryz.prog 41,.agg [.i .i64 0,.i .i64 0,.sl .full [],.sl .full []])),(4,(qD Tryz.prog 41,.agg [.i .i64 1,.i .i64 0,.sl .full [],qF b.reads]))] (fun _=>0) ((B,.var KD (.agg [.ptr q.R kQ [],.sl .no (strs b.outs),jA q.bo q.bi q.ba,.map (some q.W),rd,.s b.asks,.b true,.i .i64 0]))::(q.W,wrO b.wrote)::(q.RD++M)))
    (fun k=>k=0) (fun _=>0) 0 ?_ ?_ ?_
   ·apply Le.of<;>simp[qU,qG,zX]<;>try omega
   ·rfl
   rintro k rfl KL hN hE
   refine qM (cf:=zhS) laid mixed _ _ _ (by kernel_rfl) ?_
   simp (disch:=omega) [zz]
   refine hE _ _ (by simp) ?_
   have hob2:ZH b=[]:=by rw[hob,hk0];rfl
   simp (disch:=omega) [zz,hMe,hRe,hre,hwe,hme,ho1,hob2,hers,zI,zU,qF,Tryz.f19]
   refine back _ ?_
   rw[←hbo']
   exact HSub.refl _
  ·have hTn:T≠q.W∧T≠c∧T≠B:=by
    simp[q8.keys]at hnd2
    exact⟨hnd2.1.1,hnd2.1.2.1,hnd2.1.2.2.1⟩
   obtain⟨nT1,nT2,nT3⟩:=hTn
   have nT1':¬q.W=T:=fun e=>nT1 e.symm
   have nT3':¬B=T:=fun e=>nT3 e.symm
   have hrk:=KE (cap:=cap) (ts:=ks) hj
   have hgA:=fun(k:Nat) (h:k<ks.length)=>YT ks j k h
   refine⟨(T,wY cap ks j)::(B,bo)::(q.W,wrO b.wrote)::(q.RD++M),⟨(c,wbO q.W)::(T,wY cap ks j)::(B,bo)::(q.W,wrO b.wrote)::(q.RD++M),?_,(List.Sublist.refl _).cons _⟩,?_⟩
   ·refine List.perm_iff_count.2 fun a=>?_
    simp only[wY,List.count_append,List.count_cons,List.count_nil];omega
   simp (disch:=omega) [zz]
   rw[←hbo2]
   refine AT.loop' (α:=Nat) (fun k=>St.of [(0,.av .ptr (.ptr B KD [])),(2,.loc 2 []),(4,.loc 4 []),(34,.av (.slice 9) (.msl T 9 0 ks.length cap)),(35,.av (.int .i64) (.i .i64 ks.length)),(36,.av (.int .i64) (.i .i64 k))]
     [(2,(qD Tryz.prog 41,.agg [.i .i64 0,.i .i64 0,.sl .full [],.sl .full []])),(4,(qD Tryz.prog 41,.agg [.i .i64 1,.i .i64 0,.sl (tkS 51 k) ((ks.take k).map fun p=>jZ (foB b.wrote p)),qF b.reads]))] (fun j=>if j=51 then k else 0)
     ((T,wY cap ks j)::(B,.var KD (.agg [.ptr q.R kQ [],.sl .no (strs b.outs),jA q.bo q.bi q.ba,.map (some q.W),rd,.s b.asks,.b true,.i .i64 0]))::(q.W,wrO b.wrote)::(q.RD++M)))
    (fun k=>k≤ks.length) (fun k=>ks.length-k) 0 ?_ ?_ ?_
   ·apply Le.of<;>simp[qU,qG,tkS]<;>try omega
   ·omega
   rintro k hk KL hN hE
   refine qM (cf:=zhS) laid mixed _ _ _ (by kernel_rfl) ?_
   by_cases hlt:k<ks.length
   ·have hlt':(k:Int)<ks.length:=by omega
    have hg:=hgA k hlt
    have hst:((ks.take (k+1)).map fun p=>jZ (foB b.wrote p))=((ks.take k).map fun p=>jZ (foB b.wrote p))++[jZ (foB b.wrote ks[k])]:=by
     rw[List.take_succ_eq_append_getElem hlt,List.map_append];rfl
    have htl:((ks.take k).map fun p=>jZ (foB b.wrote p)).length=k:=by rw[List.length_map,List.length_take];omega
    obtain⟨x,hx⟩:=zcf (hmem ks[k] (List.getElem_mem hlt))
    have hmf:=VO ks[k] b.wrote
    rw[hx]at hmf
    have hfo:jZ (foB b.wrote ks[k])=.agg [.s ks[k],.s x.2]:=by
     unfold foB jZ;simp[hx]
    rw[hfo]at hst
    obtain⟨p,hp⟩:∃p,p=ks[k]:=⟨_,rfl⟩
    rw[←hp]at hg hst hmf
    cases k with
    | zero =>
     have hlt':(0:Int)<ks.length:=by omega
     simp (disch:=omega) [zz,hlt',hlt,hg,hmf,tkS,wY,wrO,nT1,nT1',nT3,nT3',n1,n1']
     (repeat with_reducible refine om ?_)
     simp (disch:=omega) [zz,wB]
     (repeat with_reducible refine om ?_)
     refine hN _ 1 ?_ (by omega) (by omega)
     rw[hst]
     apply Le.of<;>simp[qU,qG,tkS,wY,wrO]<;>try omega
     all_goals (intro j;by_cases hj:j=51<;>simp[hj])
    | succ k =>
     have hlt':(k:Int)+1<ks.length:=by omega
     have hge:(0:Int)≤(k:Int)+1:=by omega
     simp (disch:=omega) [zz,hlt',hlt,hg,hmf,tkS,wY,wrO,nT1,nT1',nT3,nT3',n1,n1']
     (repeat with_reducible refine om ?_)
     simp (disch:=omega) [zz,wB,htl]
     (repeat with_reducible refine om ?_)
     refine hN _ (k+2) ?_ (by omega) (by omega)
     rw[hst]
     apply Le.of<;>simp[qU,qG,tkS,wY,wrO]<;>try omega
     all_goals (intro j;by_cases hj:j=51<;>simp[hj])
   ·have hkn:k=ks.length:=by omega
    subst hkn
    have hlt':¬(ks.length:Int)<ks.length:=by omega
    simp (disch:=omega) [zz,hlt']
    refine hE _ _ (by simp) ?_
    have hfin:((ks.take ks.length).map fun p=>jZ (foB b.wrote p))=(ZH b).map jZ:=by rw[List.take_length,hob,List.map_map];rfl
    have hen:AV.ers (ks.map fun p=>jZ (foB b.wrote p))=(ZH b).map jZ:=by rw[hob,List.map_map];simp[AV.ers_eq,Function.comp_def]
    simp (disch:=omega) [zz,hMe,hRe,hre,hwe,hme,hrk,ho1,hen,hers,zI,zU,qF,Tryz.f19]
    refine back _ ?_
    rw[←hbo']
    exact HSub.of_sub ((List.Sublist.refl _).cons _)
end Go.Proofs.YtooipdkilgpojaaGreatDoor
end
