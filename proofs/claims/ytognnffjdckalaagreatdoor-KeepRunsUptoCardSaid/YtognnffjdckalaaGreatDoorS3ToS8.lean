/- The document's SHA-256: the whole text, the sum. No condition. -/
import Derived.Test.YtognnffjdckalaaGreatDoorS0ToS6
set_option linter.unusedSimpArgs false
set_option linter.unusedVariables false
set_option linter.unusedSectionVars false
set_option maxHeartbeats 64000000
set_option maxRecDepth 100000
namespace Go.Proofs.YtognnffjdckalaaGreatDoor
open Go Go.Ab
open Classical
section
variable [Sel]
abbrev kH (b:UInt8):AV:=.i .u8 b.toNat
def KX (n:Nat):Nat:=(55+64-n % 64) % 64
theorem PP (n:Nat):(n+1+KX n) % 64=56:=by unfold KX;omega
theorem zcB {n k:Nat} (h:k<KX n):(n+1+k) % 64≠56:=by unfold KX at h;omega
theorem ze6 (n:Nat):KX n<64:=by unfold KX;omega
def JA (n:Nat):List UInt8:=[UInt8.ofNat (n*8 / 2 ^ 56),UInt8.ofNat (n*8 / 2 ^ 48),UInt8.ofNat (n*8 / 2 ^ 40),UInt8.ofNat (n*8 / 2 ^ 32),UInt8.ofNat (n*8 / 2 ^ 24),UInt8.ofNat (n*8 / 2 ^ 16),UInt8.ofNat (n*8 / 2 ^ 8),UInt8.ofNat (n*8)]
def Q7 (l:List UInt8):List UInt8:=l++[128]++List.replicate (KX l.length) 0++JA l.length
theorem za5 (l:List UInt8):(Q7 l).length % 64=0:=by
 have:=PP l.length
 simp[Q7,JA];omega
theorem zjN (l:List UInt8):(Q7 l).length<=l.length+80:=by
 have:=ze6 l.length
 simp[Q7,JA];omega
theorem zcQ (N:Nat):∀j,j<8->(JA N).take (8-j)=(JA N).take (7-j)++[UInt8.ofNat (N*8 / 2 ^ (8*j))]
 | 0,_=>by simp[JA]|1,_=>by simp[JA]|2,_=>by simp[JA]|3,_=>by simp[JA]|4,_=>by simp[JA]|5,_=>by simp[JA]|6,_=>by simp[JA]|7,_=>by simp[JA]
 | j+8,h=>by omega
theorem zb0 (m:Nat):IntKind.u8.wrap (m:Int)=((UInt8.ofNat m).toNat:Int):=by
 simp[IntKind.wrap,IntKind.signed,IntKind.bits]
theorem P6 {n:Int} (h0:0<=n) (h1:n<18446744073709551616):IntKind.u64.wrap n=n:=by
 simp[IntKind.wrap,IntKind.signed,IntKind.bits];omega
theorem zqd (n k:Nat) (h:k<64):((n:Int)).fdiv (2 ^ (min k IntKind.u64.bits))=((n / 2 ^ k:Nat):Int):=by
 rw[show min k IntKind.u64.bits=k by simp[IntKind.bits];omega,Int.fdiv_eq_ediv_of_nonneg _ (Int.le_of_lt (Int.pow_pos (by omega)))]
 norm_cast
theorem GO:kH 128=.i .u8 128:=rfl
theorem vA:kH 0=.i .u8 0:=rfl
theorem zjW (l:List UInt8) (hl:l.length<=1000000000000):PC Tryz.prog 84 [.av .str (.s l)] (.av (.slice 5) (jB (Q7 l))):=by
 have hp:=ze6 l.length
 refine zow Tryz.func84 cf0 fun imm0 w0=>?_
 simp (disch:=omega) [zz,qQ]
 (repeat with_reducible refine om ?_)
 refine AT.loopV (α:=Nat × Nat) (fun k ver=>St.of [(0,.av .str (.s l)),(3,.av (.slice 5) (.sl (.own k.2 (ver k.2)) ((l++[128]++List.replicate k.1 0).map kH)))] [] ver [])
  (fun k=>k.1<=KX l.length) (fun k=>KX l.length-k.1) (0,10) ?h0 ?h1 ?h2
 case h0=>apply Le.of<;>simp[le9,GO]<;>try omega
 case h1=>simp
 case h2 =>
  rintro⟨k,tk⟩ ver hk KL hN hE
  simp only at hk hN
  refine zrd cf0 ?_
  have hlen:((l.length:Int)+((k:Int)+1)).tmod 64=(((l.length+1+k) % 64:Nat):Int):=by
   rw[Int.tmod_eq_emod_of_nonneg (by omega)];omega
  by_cases hkt:k<KX l.length
  ·have hne:=zcB hkt
   have hne':¬((l.length:Int)+((k:Int)+1)).tmod 64=56:=by rw[hlen];omega
   simp (disch:=omega) [zz,qQ,hne']
   (repeat with_reducible refine om ?_)
   refine hN _ (k+1,17) ?_ (by first|omega|(simp;done)|(simp;omega)) (by first|omega|(simp;done)|(simp;omega));apply Le.of<;>simp[le9,List.replicate_succ',vA,GO]<;>try omega
  ·have hke:k=KX l.length:=by omega
   subst hke
   have hsp:=PP l.length
   have hne':((l.length:Int)+((KX l.length:Int)+1)).tmod 64=56:=by rw[hlen];omega
   simp (disch:=omega) [zz,hne']
   refine hE _ _ (by simp) ?_
   simp (disch:=omega) [zz,P6]
   refine AT.loopV (α:=Nat × Nat) (fun k ver=>St.of [(3,.av (.slice 5) (.sl (.own k.2 (ver k.2)) ((l++[128]++List.replicate (KX l.length) 0++(JA l.length).take (8-k.1)).map kH))),(4,.av (.int .u64) (.i .u64 ((l.length*8:Nat):Int))),(5,.av (.int .i64) (.i .i64 ((k.1:Int)-1)))] [] ver [])
    (fun k=>k.1<=8) (fun k=>k.1) (8,tk) ?g0 ?g1 ?g2
   case g0=>apply Le.of<;>simp[le9]<;>try omega
   case g1=>simp
   case g2 =>
    rintro⟨j,tk2⟩ ver2 hj KL2 hN2 hE2
    simp only at hj hN2
    refine zrd cf0 ?_
    cases j with
    | zero =>
     simp (disch:=omega) [zz]
     refine hE2 _ _ (by simp) ?_
     simp (disch:=omega) [zz,Tryz.f84]
     rw[show (List.map kH l++kH 128::(List.replicate (KX l.length) (kH 0)++List.take 8 (List.map kH (JA l.length))))=(Q7 l).map kH by simp[Q7,JA]]
     simp[jB,AV.ers_eq,AV.er,Function.comp_def]
    | succ j =>
     have hlb:(JA l.length).length=8:=rfl
     have hst:=zcQ l.length j (by omega)
     have e3:=zqd (l.length*8) (8*j) (by omega)
     have hst':((JA l.length).map kH).take (8-j)=((JA l.length).map kH).take (7-j)++[kH (UInt8.ofNat (l.length*8 / 2 ^ (8*j)))]:=by
      rw[<-List.map_take,hst,List.map_append,List.map_take];rfl
     have e8:=zb0 (l.length*8 / 2 ^ (8*j))
     simp at e8
     have hge:(0:Int)<=(j:Int):=by omega
     push_cast at e3
     simp (disch:=omega) [zz,qQ,e3,zb0,hge]
     (repeat with_reducible refine om ?_)
     refine hN2 _ (j,33) ?_ (by first|omega|(simp;done)|(simp;omega)) (by first|omega|(simp;done)|(simp;omega));apply Le.of<;>simp[le9,hst',e8]<;>try omega
def jT (t:List UInt8):Nat->List UInt32
 | 0=>h8
 | n+1=>zO (jT t n) ((t.drop (64*n)).take 64)
theorem WJ (t:List UInt8):∀n,(jT t n).length=8
 | 0=>rfl
 | n+1=>J5 (WJ t n)
def J8 (h:List UInt32):List UInt8:=(List.range 32).map fun i=>(h.getD (i/4) 0 >>> UInt32.ofNat (24-8*(i%4))).toUInt8
def sha (l:List UInt8):List UInt8:=J8 (jT (Q7 l) ((Q7 l).length / 64))
theorem UR (h:List UInt32):(J8 h).length=32:=by simp[J8]
theorem zj1 (d:List UInt8):qK d=.agg (d.map kH):=rfl
theorem pJ (l:List UInt8) (hl:l.length<=1000000000000):PC Tryz.prog 39 [.av .str (.s l)] (.av (q8 Tryz.prog 53) (qK (sha l))):=by
 obtain⟨t,ht⟩:∃t,Q7 l=t:=⟨_,rfl⟩
 have htl:t.length<=1000000000080:=by have:=zjN l;rw[ht]at this;omega
 have htm:t.length % 64=0:=by have:=za5 l;rw[ht]at this;omega
 obtain⟨M,hM⟩:∃M,t.length=64*M:=⟨t.length / 64,by omega⟩
 have hbe:jB t=.sl .no (t.map fun b=>.i .u8 b.toNat):=rfl
 refine zow Tryz.func39 cf0 fun imm0 w0=>?_
 simp (disch:=omega) [zz]
 refine zcv (zjW l hl) ?_
 rw[ht]
 simp (disch:=omega) [zz]
 refine AT.loopV (α:=Nat) (fun k ver=>St.of [(2,.loc 2 []),(3,.av (.slice 166) (.sl .no ((jT t k).map zZ))),(4,.av (.slice 5) (jB t)),(5,.av (.int .i64) (.i .i64 (64*k:Nat)))] [(2,(q8 Tryz.prog 53,.agg (List.replicate 32 (.i .u8 0))))] ver [])
  (fun k=>64*k<=t.length) (fun k=>M-k) 0 ?_ ?_ ?_
 ·apply Le.of<;>simp[le9,jT,h8,wi]<;>try omega
 ·simp
 ·rintro k ver hk KL hN hE
  have hkl:=WJ t k
  refine zrd cf0 ?_
  by_cases hlt:64*k<t.length
  ·have e1:List.drop (64*k) (List.take (64*k+64) t)=(t.drop (64*k)).take 64:=by rw[List.drop_take];congr 1;omega
   have hlt':64*(k:Int)<t.length:=by omega
   simp (disch:=omega) [zz,hbe,hlt']
   (repeat with_reducible refine om ?_)
   refine YE (zk6 (jT t k) ((t.drop (64*k)).take 64) hkl (by simp;omega)) rfl rfl (by simp) ?_ ?_
   ·simp[q9,TV.er,AV.er,AV.ers_eq,Function.comp_def,jB,List.drop_take]
   ·simp (disch:=omega) [zz]
    refine hN _ (k+1) ?_ (by first|omega|(simp;done)|(simp;omega)) (by first|omega|(simp;done)|(simp;omega));apply Le.of<;>simp[le9,jT,hbe]<;>try omega
  ·obtain rfl:k=M:=by omega
   have hlt':¬64*(k:Int)<t.length:=by omega
   simp (disch:=omega) [zz,hbe,hlt']
   refine hE _ _ (by simp) ?_
   simp (disch:=omega) [zz]
   have hdk:(Q7 l).length / 64=k:=by rw[ht,hM];omega
   have hsha:sha l=J8 (jT t k):=by rw[sha,hdk,ht]
   obtain⟨D,hD⟩:∃D,J8 (jT t k)=D:=⟨_,rfl⟩
   have hDl:D.length=32:=by rw[<-hD];exact UR _
   refine AT.loopV (α:=Nat) (fun j ver=>St.of [(2,.loc 2 []),(3,.av (.slice 166) (.sl .no ((jT t k).map zZ))),(6,.loc 6 []),(7,.av (.int .i64) (.i .i64 j))] [(2,(q8 Tryz.prog 53,.agg (List.replicate 32 (.i .u8 0)))),(6,(q8 Tryz.prog 53,.agg ((D.take j++List.replicate (32-j) 0).map kH)))] ver [])
    (fun j=>j<=32) (fun j=>32-j) 0 ?_ ?_ ?_
   ·apply Le.of<;>simp[le9,vA]<;>try omega
   ·simp
   ·rintro j ver2 hj KL2 hN2 hE2
    refine zrd cf0 ?_
    by_cases hjt:j<32
    ·obtain⟨q,hq⟩:∃q:Nat,j / 4=q:=⟨_,rfl⟩
     obtain⟨r,hr⟩:∃r:Nat,j % 4=r:=⟨_,rfl⟩
     have hq':(j:Int).tdiv 4=(q:Int):=by rw[Int.tdiv_eq_ediv_of_nonneg (by omega)];omega
     have hr':(j:Int).tmod 4=(r:Int):=by rw[Int.tmod_eq_emod_of_nonneg (by omega)];omega
     have hjt':(j:Int)<32:=by omega
     obtain⟨x,hx⟩:∃x,(jT t k)[q]?=some x:=⟨_,List.getElem?_eq_getElem (by omega)⟩
     have hDj:D[j]?=some (x >>> UInt32.ofNat (24-8*r)).toUInt8:=by
      rw[<-hD]
      simp[J8,hjt,hq,hr,hx]
     have jZ:((D.take j++List.replicate (32-j) 0).map kH).set j (kH (x >>> UInt32.ofNat (24-8*r)).toUInt8)=(D.take (j+1)++List.replicate (32-(j+1)) 0).map kH:=by
      rw[<-List.map_set,List.take_add_one,hDj,show 32-j=(32-(j+1))+1 by omega,List.replicate_succ]
      simp[List.set_append_right,hDl,Nat.min_eq_left (Nat.le_of_lt hjt)]
     generalize jT t k=H at *
     have hy:=zsu (x >>> UInt32.ofNat (24-8*r))
     generalize (x >>> UInt32.ofNat (24-8*r)).toUInt8=y at *
     have gx:∀g:q<H.length,H[q]=x:=fun g=>by rw[List.getElem?_eq_getElem g]at hx;simpa using hx
     simp (disch:=omega) [zz,hjt',hq',hr',gx,JP,hy]
     (repeat with_reducible refine om ?_)
     simp only[List.map_append,List.map_take,List.map_replicate,vA]at jZ
     refine hN2 _ (j+1) ?_ (by first|omega|(simp;done)|(simp;omega)) (by first|omega|(simp;done)|(simp;omega));apply Le.of<;>simp[le9,jZ,vA]<;>try omega
    ·obtain rfl:j=32:=by omega
     simp (disch:=omega) [zz]
     refine hE2 _ _ (by simp) ?_
     simp (disch:=omega) [zz,Tryz.f39]
     rw[hsha,hD,zj1,List.take_of_length_le (by simp[hDl])]
     simp[AV.ers_eq,Function.comp_def,AV.er]
abbrev zrK:Cfg:=⟨fun n=>n==3,fun _=>false⟩
noncomputable abbrev J9:TyD:=q8 Tryz.prog 255
noncomputable def zG (B:Nat) (s:List UInt32) (op:AV) (n:Nat):q7:=[(B,.var J9 (.agg [.agg (s.map zZ),op,.i .u64 n]))]
theorem zlY:q6 Tryz.prog 147 [] [] fun r H'=>∃B,r=.av .ptr (.ptr B J9 [])/\H'=zG B h8 (.sl .full []) 0:=by
 refine zov Tryz.func147 zrK fun imm0 w0=>?_
 simp (disch:=omega) [zz]
 refine YE zfg rfl rfl (by simp) (by simp[q9]) ?_
 simp (disch:=omega) [zz]
 intro B
 simp (disch:=omega) [zz,Tryz.f147]
 simp[zG,AV.erks_eq,Function.comp_def,AV.erk]
theorem zdh {t u:List UInt8}:∀ {n:Nat},64*n<=t.length->jT (t++u) n=jT t n
 | 0,_=>rfl
 | n+1,h=>by
  rw[jT,jT,zdh (by omega),List.drop_append_of_le_length (by omega),List.take_append_of_le_length (by simp;omega)]
abbrev zqr:Cfg:=⟨fun _=>false,fun n=>n==39⟩
theorem znb (B:Nat) (l:List UInt8) (hl:l.length<=1000000000000) :
  q6 Tryz.prog 148 [.av .ptr (.ptr B J9 []),.av .str (.s l)] (zG B h8 (.sl .full []) 0) fun r H'=>r=.tup []/\H'=zG B (jT l (l.length / 64)) (jB (l.drop (64*(l.length / 64)))) l.length:=by
 have hbe:∀x,jB x=.sl .no (x.map kH):=fun _=>rfl
 refine zov Tryz.func148 zqr fun imm0 w0=>?_
 simp (disch:=omega) [zz,zG,P6,qQ]
 (repeat with_reducible refine om ?_)
 refine AT.loopV (α:=Nat) (fun k ver=>St.of [(0,.av .ptr (.ptr B J9 []))] [] ver (zG B (jT l k) (jB (l.drop (64*k))) l.length))
  (fun k=>64*k<=l.length) (fun k=>l.length-64*k) 0 ?_ ?_ ?_
 ·refine Le.ofW ?_ ?_ ?_ ?_ ?_<;>simp[k8,z1,pC,UU,G7,GG,zgx,zbz,pN,XC,uU,kD,qU,JC,q5,qE,qV,qF,qS,zG,jT,hbe]<;>try omega
 ·simp
 ·rintro k ver hk KL hN hE
  obtain⟨R,hR⟩:∃R,l.drop (64*k)=R:=⟨_,rfl⟩
  have hRl:R.length=l.length-64*k:=by rw[<-hR];simp
  have hkl:=WJ l k
  have hn1:jT l (k+1)=zO (jT l k) (R.take 64):=by rw[jT,hR]
  have hn2:l.drop (64*(k+1))=R.drop 64:=by rw[<-hR,List.drop_drop];congr 1
  rw[hR]
  obtain⟨S,hS⟩:∃S,jT l k=S:=⟨_,rfl⟩
  rw[hS]at hn1 hkl |-
  refine zrd zqr ?_
  by_cases hlt:64<=R.length
  ·have hlt':(64:Int)<=R.length:=by omega
   simp (disch:=omega) [zz,zG,hbe,hlt']
   (repeat with_reducible refine om ?_)
   refine zF (R:=fun r H'=>r=.tup []/\H'=zG B (zO S (R.take 64)) (jB R) l.length) rfl (by simp[qH]) (by simp) ?_ ?_
   ·have:=zgp B S (R.take 64) hkl (by simp;omega) (op:=jB R) (nn:=.i .u64 l.length) (by simp) (by simp[AV.erk])
    simpa[zG,hbe,TV.er,AV.er,AV.ers_eq,AV.erk,AV.erks,AV.erks_eq,q7.er_cons,q7.er_nil,HObj.er_var,Function.comp_def,Tok.k]using this
   ·rintro r H' ⟨rfl,rfl⟩
    simp (disch:=omega) [zz,zG,hbe]
    (repeat with_reducible refine om ?_)
    refine hN _ (k+1) ?_ (by omega) (by omega)
    rw[hn1,hn2]
    have htk:List.take R.length (List.map kH R)=List.map kH R:=List.take_of_length_le (by simp)
    refine Le.ofW ?_ ?_ ?_ ?_ ?_<;>simp[k8,z1,pC,UU,G7,GG,zgx,zbz,pN,XC,uU,kD,qU,JC,q5,qE,qV,qF,qS,zG,hbe,htk]<;>try omega
  ·have hlt':¬(64:Int)<=R.length:=by omega
   have hk2:l.length / 64=k:=by omega
   simp (disch:=omega) [zz,zG,hbe,hlt']
   refine hE _ _ (by simp) ?_
   simp (disch:=omega) [zz,Tryz.f148,zG,hbe,hk2,hS,hR]
   simp[AV.erks_eq,Function.comp_def,AV.erk,Tok.k,AV.ers_eq,AV.er]
def J1 (s:List UInt32) (t:List UInt8):Nat->List UInt32
 | 0=>s
 | n+1=>zO (J1 s t n) ((t.drop (64*n)).take 64)
theorem zc6 {s:List UInt32} (t:List UInt8) (hs:s.length=8):∀n,(J1 s t n).length=8
 | 0=>hs
 | n+1=>J5 (zc6 t hs n)
def K5 (op:List UInt8) (n:Nat):List UInt8:=op++[128]++List.replicate (KX op.length) 0++JA n
abbrev znr:Cfg:=⟨fun n=>n==3,fun _=>false⟩
theorem u9:∀l:List UInt8,bytesOf (l.map kH)=some l
 | []=>rfl
 | b::l=>by simp[bytesOf,u9 l]
theorem zj8 (B:Nat) (s:List UInt32) (op:List UInt8) (n:Nat) (hs:s.length=8) (hop:op.length<64) (hn:n<=1000000000000) :
  q6 Tryz.prog 149 [.av .ptr (.ptr B J9 [])] (zG B s (jB op) n) fun r H'=>r=.av (q8 Tryz.prog 53) (qK (J8 (J1 s (K5 op n) ((K5 op n).length / 64))))/\H'=zG B s (jB op) n:=by
 have hbe:∀x,jB x=.sl .no (x.map kH):=fun _=>rfl
 refine q6.drop (R:=fun r H'=>r=.av (q8 Tryz.prog 53) (qK (J8 (J1 s (K5 op n) ((K5 op n).length / 64))))/\∃B2 o,H'=(B2,o)::zG B s (jB op) n) ?_ ?_
 rotate_left
 ·rintro r H' ⟨rfl,B2,o,rfl⟩
  exact⟨_,List.sublist_cons_self _ _,rfl,rfl⟩
 have hp:=ze6 op.length
 refine zov Tryz.func149 znr fun imm0 w0=>?_
 simp (disch:=omega) [zz,zG,hbe]
 intro B2 hB2
 simp (disch:=omega) [zz,zG,hbe,u9,qQ,hB2]
 (repeat with_reducible refine om ?_)
 refine AT.loopV (α:=Nat × Nat) (fun k ver=>St.of [(0,.av .ptr (.ptr B J9 [])),(2,.loc 2 []),(3,.av .ptr (.ptr B2 (.arr 8 166) [])),(4,.av (.slice 5) (.sl (.own k.2 (ver k.2)) ((op++[128]++List.replicate k.1 0).map kH)))] [(2,(q8 Tryz.prog 53,.agg (List.replicate 32 (.i .u8 0))))] ver ((B2,.var (.arr 8 166) (.agg (s.map zZ)))::zG B s (jB op) n))
  (fun k=>k.1<=KX op.length) (fun k=>KX op.length-k.1) (0,23) ?_ ?_ ?_
 ·apply Le.of<;>simp[le9,GO,zG,hbe]<;>try omega
 ·simp
 rintro⟨k,tk⟩ ver hk KL hN hE
 simp only at hk hN
 refine zrd znr ?_
 have hlen:((op.length:Int)+((k:Int)+1)).tmod 64=(((op.length+1+k) % 64:Nat):Int):=by
  rw[Int.tmod_eq_emod_of_nonneg (by omega)];omega
 by_cases hkt:k<KX op.length
 ·have hne:=zcB hkt
  have hne':¬((op.length:Int)+((k:Int)+1)).tmod 64=56:=by rw[hlen];omega
  simp (disch:=omega) [zz,qQ,hne']
  (repeat with_reducible refine om ?_)
  refine hN _ (k+1,30) ?_ (by first|omega|(simp;done)|(simp;omega)) (by first|omega|(simp;done)|(simp;omega));apply Le.of<;>simp[le9,List.replicate_succ',vA,GO]<;>try omega
 have hke:k=KX op.length:=by omega
 subst hke
 have hsp:=PP op.length
 have hne':((op.length:Int)+((KX op.length:Int)+1)).tmod 64=56:=by rw[hlen];omega
 simp (disch:=omega) [zz,hne']
 refine hE _ _ (by simp) ?_
 simp (disch:=omega) [zz,P6]
 refine AT.loopV (α:=Nat × Nat) (fun k ver=>St.of [(0,.av .ptr (.ptr B J9 [])),(2,.loc 2 []),(3,.av .ptr (.ptr B2 (.arr 8 166) [])),(4,.av (.slice 5) (.sl (.own k.2 (ver k.2)) ((op++[128]++List.replicate (KX op.length) 0++(JA n).take (8-k.1)).map kH))),(5,.av (.int .i64) (.i .i64 (8*(k.1:Int)-8)))] [(2,(q8 Tryz.prog 53,.agg (List.replicate 32 (.i .u8 0))))] ver ((B2,.var (.arr 8 166) (.agg (s.map zZ)))::zG B s (jB op) n))
  (fun k=>k.1<=8) (fun k=>k.1) (8,tk) ?_ ?_ ?_
 ·apply Le.of<;>simp[le9,zG,hbe]<;>try omega
 ·simp
 rintro⟨j,tk2⟩ ver2 hj KL2 hN2 hE2
 simp only at hj hN2
 refine zrd znr ?_
 cases j with
 | succ j =>
  have hlb:(JA n).length=8:=rfl
  have hst:=zcQ n j (by omega)
  have e3:=zqd (n*8) (8*j) (by omega)
  have hst':((JA n).map kH).take (8-j)=((JA n).map kH).take (7-j)++[kH (UInt8.ofNat (n*8 / 2 ^ (8*j)))]:=by
   rw[<-List.map_take,hst,List.map_append,List.map_take];rfl
  have e8:=zb0 (n*8 / 2 ^ (8*j))
  simp at e8
  have hge:(0:Int)<=8*(j:Int):=by omega
  push_cast at e3
  have hq:8*((j:Int)+1)-8=8*j:=by omega
  simp (disch:=omega) [zz,qQ,e3,zb0,hge,zG,hq,hB2,Int.mul_comm 8 (n:Int),P6]
  (repeat with_reducible refine om ?_)
  refine hN2 _ (j,45) ?_ (by first|omega|(simp;done)|(simp;omega)) (by first|omega|(simp;done)|(simp;omega));apply Le.of<;>simp[le9,hst',e8,zG,hbe]<;>try omega
 | zero =>
  simp (disch:=omega) [zz,zG]
  refine hE2 _ _ (by simp) ?_
  obtain⟨T,hT⟩:∃T,K5 op n=T:=⟨_,rfl⟩
  have hTm:T.length % 64=0:=by
   rw[<-hT];simp[K5,JA];omega
  obtain⟨M,hM⟩:∃M,T.length=64*M:=⟨T.length / 64,by omega⟩
  have hTl:T.length<=200:=by rw[<-hT];simp[K5,JA];omega
  have hTM:T.length / 64=M:=by omega
  have hTe:List.map kH op++kH 128::(List.replicate (KX op.length) (kH 0)++List.take 8 (List.map kH (JA n)))=List.map kH T:=by
   rw[<-hT];simp[K5,JA]
  rw[hT,hTM]
  clear hE2 hN2
  simp (disch:=omega) [zz,zG,hTe]
  refine AT.loopV (α:=Nat) (fun k ver=>St.of [(0,.av .ptr (.ptr B J9 [])),(2,.loc 2 []),(3,.av .ptr (.ptr B2 (.arr 8 166) [])),(4,.av (.slice 5) (jB (T.drop (64*k))))] [(2,(q8 Tryz.prog 53,.agg (List.replicate 32 (.i .u8 0))))] ver ((B2,.var (.arr 8 166) (.agg ((J1 s T k).map zZ)))::zG B s (jB op) n))
   (fun k=>k<=M) (fun k=>M-k) 0 ?_ ?_ ?_
  ·apply Le.of<;>simp[le9,zG,hbe,J1]<;>try omega
  ·simp
  rintro k ver3 hk KL3 hN3 hE3
  have hkl:=zc6 T hs k
  refine zrd znr ?_
  by_cases hlt:k<M
  ·obtain⟨R,hR⟩:∃R,T.drop (64*k)=R:=⟨_,rfl⟩
   have hRl:R.length=T.length-64*k:=by rw[<-hR];simp
   have hn1:J1 s T (k+1)=zO (J1 s T k) (R.take 64):=by rw[J1,hR]
   have hn2:T.drop (64*(k+1))=R.drop 64:=by rw[<-hR,List.drop_drop];congr 1
   rw[hR]
   have hpos:0<R.length:=by omega
   simp (disch:=omega) [zz,zG,hbe,hpos]
   (repeat with_reducible refine om ?_)
   refine qM (R:=fun r H'=>r=.tup []/\H'=[(B2,.var (.arr 8 166) (.agg ((zO (J1 s T k) (R.take 64)).map zZ)))]) [(B2,.var (.arr 8 166) (.agg ((J1 s T k).map zZ)))] (zG B s (jB op) n) (by simp[zG,hbe]) rfl (by simp[qH]) (by simp) ?_ ?_
   ·have:=zp2 B2 (J1 s T k) (R.take 64) hkl (by simp;omega)
    simpa[zG,hbe,TV.er,AV.er,AV.ers_eq,AV.erk,AV.erks,AV.erks_eq,q7.er_cons,q7.er_nil,HObj.er_var,Function.comp_def,Tok.k]using this
   ·rintro r H' ⟨rfl,rfl⟩ _
    refine⟨_,HSub.refl _,?_⟩
    simp (disch:=omega) [zz,zG,hbe]
    (repeat with_reducible refine om ?_)
    have htk:List.take R.length (List.map kH R)=List.map kH R:=List.take_of_length_le (by simp)
    refine hN3 _ (k+1) ?_ (by omega) (by omega)
    rw[hn1,hn2]
    refine Le.ofW ?_ ?_ ?_ ?_ ?_<;>simp[k8,z1,pC,UU,G7,GG,zgx,zbz,pN,XC,uU,kD,qU,JC,q5,qE,qV,qF,qS,zG,hbe,htk]<;>try omega
  ·obtain rfl:k=M:=by omega
   have hdn:T.drop (64*k)=[]:=List.drop_eq_nil_of_le (by omega)
   rw[hdn]
   simp (disch:=omega) [zz,zG,hbe]
   refine hE3 _ _ (by simp) ?_
   simp (disch:=omega) [zz,zG]
   obtain⟨D,hD⟩:∃D,J8 (J1 s T k)=D:=⟨_,rfl⟩
   have hDl:D.length=32:=by rw[<-hD];exact UR _
   refine AT.loopV (α:=Nat) (fun j ver=>St.of [(2,.loc 2 []),(3,.av .ptr (.ptr B2 (.arr 8 166) [])),(6,.loc 6 []),(54,.av (.int .i64) (.i .i64 j))] [(2,(q8 Tryz.prog 53,.agg (List.replicate 32 (.i .u8 0)))),(6,(q8 Tryz.prog 53,.agg ((D.take j++List.replicate (32-j) 0).map kH)))] ver ((B2,.var (.arr 8 166) (.agg ((J1 s T k).map zZ)))::zG B s (jB op) n))
    (fun j=>j<=32) (fun j=>32-j) 0 ?_ ?_ ?_
   ·apply Le.of<;>simp[le9,vA,zG,hbe]<;>try omega
   ·simp
   ·rintro j ver4 hj KL4 hN4 hE4
    refine zrd znr ?_
    by_cases hjt:j<32
    ·obtain⟨q,hq⟩:∃q:Nat,j / 4=q:=⟨_,rfl⟩
     obtain⟨r,hr⟩:∃r:Nat,j % 4=r:=⟨_,rfl⟩
     have hq':(j:Int).tdiv 4=(q:Int):=by rw[Int.tdiv_eq_ediv_of_nonneg (by omega)];omega
     have hr':(j:Int).tmod 4=(r:Int):=by rw[Int.tmod_eq_emod_of_nonneg (by omega)];omega
     have hjt':(j:Int)<32:=by omega
     obtain⟨x,hx⟩:∃x,(J1 s T k)[q]?=some x:=⟨_,List.getElem?_eq_getElem (by omega)⟩
     have hDj:D[j]?=some (x >>> UInt32.ofNat (24-8*r)).toUInt8:=by
      rw[<-hD]
      simp[J8,hjt,hq,hr,hx]
     have hsq:((D.take j++List.replicate (32-j) 0).map kH).set j (kH (x >>> UInt32.ofNat (24-8*r)).toUInt8)=(D.take (j+1)++List.replicate (32-(j+1)) 0).map kH:=by
      rw[<-List.map_set,List.take_add_one,hDj,show 32-j=(32-(j+1))+1 by omega,List.replicate_succ]
      simp[List.set_append_right,hDl,Nat.min_eq_left (Nat.le_of_lt hjt)]
     generalize J1 s T k=H at *
     have hy:=zsu (x >>> UInt32.ofNat (24-8*r))
     generalize (x >>> UInt32.ofNat (24-8*r)).toUInt8=y at *
     have gx:∀g:q<H.length,H[q]=x:=fun g=>by rw[List.getElem?_eq_getElem g]at hx;simpa using hx
     simp (disch:=omega) [zz,hjt',hq',hr',gx,JP,hy,zG]
     (repeat with_reducible refine om ?_)
     simp only[List.map_append,List.map_take,List.map_replicate,vA]at hsq
     refine hN4 _ (j+1) ?_ (by first|omega|(simp;done)|(simp;omega)) (by first|omega|(simp;done)|(simp;omega));apply Le.of<;>simp[le9,hsq,vA,zG]<;>try omega
    ·obtain rfl:j=32:=by omega
     simp (disch:=omega) [zz]
     refine hE4 _ _ (by simp) ?_
     simp (disch:=omega) [zz,Tryz.f149,zG]
     rw[hD,zj1,List.take_of_length_le (by simp[hDl])]
     simp[AV.ers_eq,Function.comp_def,AV.er,AV.erk,AV.erks_eq,hbe,Tok.k]
theorem dV (t:List UInt8) (q:Nat):∀m,jT t (q+m)=J1 (jT t q) (t.drop (64*q)) m
 | 0=>rfl
 | m+1=>by
  rw[<-Nat.add_assoc,jT,J1,dV t q m,List.drop_drop]
  congr 3;omega
theorem zdm (l:List UInt8):(Q7 l).drop (64*(l.length / 64))=K5 (l.drop (64*(l.length / 64))) l.length:=by
 have hp:KX (l.length-64*(l.length / 64))=KX l.length:=by unfold KX;omega
 have h0:64*(l.length / 64)<=l.length:=by omega
 simp only[Q7,K5,List.length_drop,hp,List.append_assoc]
 rw[List.drop_append_of_le_length h0]
theorem zcC (l:List UInt8):J8 (J1 (jT l (l.length / 64)) (K5 (l.drop (64*(l.length / 64))) l.length) ((K5 (l.drop (64*(l.length / 64))) l.length).length / 64))=sha l:=by
 have hm:=za5 l
 have hs:=zdm l
 have hlen:(Q7 l).length / 64=l.length / 64+(K5 (l.drop (64*(l.length / 64))) l.length).length / 64:=by
  rw[<-hs,List.length_drop]
  have:l.length<=(Q7 l).length:=by simp[Q7]
  omega
 have ha:jT (Q7 l) (l.length / 64)=jT l (l.length / 64):=by
  have:Q7 l=l++([128]++List.replicate (KX l.length) 0++JA l.length):=by simp[Q7]
  rw[this]
  exact zdh (by omega)
 rw[sha,hlen,dV,hs,ha]
def ziX (l:List UInt8):AV:=.sl .no [.s l]
theorem zmm (l:List UInt8) (hl:l.length<=1000000000000):PC Tryz.prog 91 [.av (.slice 9) (ziX l)] (.av (q8 Tryz.prog 53) (qK (sha l))):=by
 have hbe:∀x,jB x=.sl .no (x.map kH):=fun _=>rfl
 refine zow Tryz.func91 cf0 fun imm0 w0=>?_
 simp (disch:=omega) [zz,ziX]
 refine zF (R:=fun r H'=>∃B,r=.av .ptr (.ptr B J9 [])/\H'=zG B h8 (.sl .full []) 0) rfl (by simp[qH]) (by simp) ?_ ?_
 ·simpa[q7.er_nil]using zlY
 rintro r H' ⟨B,rfl,rfl⟩
 simp (disch:=omega) [zz,zG]
 refine AT.loopV (α:=Nat) (fun k ver=>St.of [(2,.loc 2 []),(3,.av .ptr (.ptr B J9 [])),(7,.av (.slice 9) (.sl .no [.s l])),(8,.av (.int .i64) (.i .i64 1)),(9,.av (.int .i64) (.i .i64 k))] [(2,(q8 Tryz.prog 53,.agg (List.replicate 32 (.i .u8 0))))] ver
   (match k with|0=>zG B h8 (.sl .full []) 0|_+1=>zG B (jT l (l.length / 64)) (jB (l.drop (64*(l.length / 64)))) l.length))
  (fun k=>k<=1) (fun k=>1-k) 0 ?_ ?_ ?_
 ·apply Le.of<;>simp[le9,zG]<;>try omega
 ·simp
 rintro k ver hk KL hN hE
 refine zrd cf0 ?_
 cases k with
 | zero =>
  simp (disch:=omega) [zz,zG]
  refine zF (R:=fun r H'=>r=.tup []/\H'=zG B (jT l (l.length / 64)) (jB (l.drop (64*(l.length / 64)))) l.length) rfl (by simp[qH]) (by simp) ?_ ?_
  ·have:=znb B l hl
   simpa[zG,TV.er,AV.er,AV.ers_eq,AV.erk,AV.erks,AV.erks_eq,q7.er_cons,q7.er_nil,HObj.er_var,Function.comp_def,Tok.k]using this
  ·rintro r H' ⟨rfl,rfl⟩
   simp (disch:=omega) [zz,zG]
   refine hN _ 1 ?_ (by first|omega|(simp;done)|(simp;omega)) (by first|omega|(simp;done)|(simp;omega));apply Le.of<;>simp[le9,zG]<;>try omega
 | succ k =>
  obtain rfl:k=0:=by omega
  simp (disch:=omega) [zz,zG]
  refine hE _ _ (by simp) ?_
  simp (disch:=omega) [zz,zG]
  refine zF (R:=fun r H'=>r=.av (q8 Tryz.prog 53) (qK (sha l))/\H'=zG B (jT l (l.length / 64)) (jB (l.drop (64*(l.length / 64)))) l.length) rfl (by simp[qH]) (by simp) ?_ ?_
  ·have:=zj8 B (jT l (l.length / 64)) (l.drop (64*(l.length / 64))) l.length (WJ l _) (by simp;omega) hl
   rw[zcC]at this
   simpa[zG,TV.er,AV.er,AV.ers_eq,AV.erk,AV.erks,AV.erks_eq,q7.er_cons,q7.er_nil,HObj.er_var,Function.comp_def,Tok.k]using this
  ·rintro r H' ⟨rfl,rfl⟩
   simp (disch:=omega) [zz,Tryz.f91]
end
end Go.Proofs.YtognnffjdckalaaGreatDoor
