/- The program's SHA-256: a block is taken. No condition. -/
import Derived.Test.YtfkcpballfhddaaGreatDoorBR0ToS5
set_option linter.unusedSimpArgs false
set_option linter.unusedVariables false
set_option linter.unusedSectionVars false
set_option maxHeartbeats 64000000
section
set_option maxRecDepth 100000
namespace Go.Proofs.YtfkcpballfhddaaGreatDoor
open Go Go.Ab
open Classical
variable [Sel]
abbrev zl4:Cfg:=⟨fun _=>false,fun n=>n==112⟩
theorem zfP {s R C:List UInt32} {i:Nat} {x y:UInt32} (hC:C=List.zipWith (·+·) s R) (hs:s.length=8) (hR:R.length=8) (hi:i<8) (hx:s[i]?=some x) (hy:R[i]?=some y) :
  ((C.take i++s.drop i).map wW).set i (wW (x+y))=(C.take (i+1)++s.drop (i+1)).map wW:=by
 have hCl:C.length=8:=by rw[hC];simp[hs,hR]
 have hCi:C[i]?=some (x+y):=by rw[hC];simp[List.getElem?_zipWith,hx,hy]
 have hd:s.drop i=x::s.drop (i+1):=by
  rw[<-List.getElem_cons_drop (show i<s.length by omega)]
  rw[List.getElem?_eq_getElem (by omega)]at hx
  rw[Option.some.inj hx]
 rw[<-List.map_set,List.take_add_one,hCi,hd]
 simp[List.set_append_right,hCl,Nat.min_eq_left (Nat.le_of_lt hi)]

theorem zpC (B:Nat) (s:List UInt32) (b:List UInt8) (hs:s.length=8) (hb:b.length=64) :
  q7 Tryz.prog 154 [.av .ptr (.ptr B (.arr 8 126) []),.av (.slice 5) (yY b)] [(B,.var (.arr 8 126) (.agg (s.map wW)))] fun r H'=>r=.tup []/\H'=[(B,.var (.arr 8 126) (.agg ((kE s b).map wW)))]:=by
 refine zov Tryz.func154 zl4 fun imm0 w0=>?_
 simp (disch:=omega) [zz,qJ]
 (repeat with_reducible refine om ?_)
 refine zcd (PH) ?_;(simp (disch:=first|omega|assumption) [zz,qJ])
 (repeat with_reducible refine om ?_)
 refine qG (zdj b hb) rfl rfl (by simp) (by simp[qM,TV.er]) ?_
 simp (disch:=omega) [zz,qJ]
 refine AT.loopV (α:=Nat) (fun k ver=>St.of [(0,.av .ptr (.ptr B (.arr 8 126) [])),(4,.loc 4 []),(5,.loc 5 []),(19,.av (.arr 64 126) (.agg ((QZ b 64).map wW))),(20,.av (.int .i64) (.i .i64 k))] [(4,(.arr 8 126,.agg ((rnd b s k).map wW))),(5,(.arr 64 126,.agg (k64.map wW)))] ver [(B,.var (.arr 8 126) (.agg (s.map wW)))])
  (fun k=>k<=64) (fun k=>64-k) 0 ?_ ?_ ?_
 ·apply Le.of<;>simp[le9,rnd,qJ]<;>try omega
 ·simp
 ·rintro k ver hk KL hN hE
  refine zrd zl4 ?_
  by_cases hlt:k<64
  ·have hlt':(k:Int)<64:=by omega
   obtain⟨v0,v1,v2,v3,v4,v5,v6,v7,hv⟩:=zmJ (VT (b:=b) hs k)
   obtain⟨kk,hkk⟩:∃x,k64[k]?=some x:=⟨_,List.getElem?_eq_getElem (by simp[k64];omega)⟩
   obtain⟨ww,hww⟩:∃x,(QZ b 64)[k]?=some x:=⟨_,List.getElem?_eq_getElem (by simp;omega)⟩
   have hR:rnd b s (k+1)=d9 [v0,v1,v2,v3,v4,v5,v6,v7] kk ww:=by rw[rnd,hv,hkk,hww];rfl
   have hkl:k64.length=64:=rfl
   have hwl:=u9 b 64
   generalize k64=KK at *
   generalize QZ b 64=W at *
   have gk:∀h:k<KK.length,KK[k]=kk:=fun h=>by rw[List.getElem?_eq_getElem h]at hkk;simpa using hkk
   have gw:∀h:k<W.length,W[k]=ww:=fun h=>by rw[List.getElem?_eq_getElem h]at hww;simpa using hww
   simp (disch:=omega) [zz,hlt',hv,gw,qJ]
   (repeat with_reducible refine om ?_)
   refine zcd (wC v4 6 (by decide) (by decide)) ?_;(simp (disch:=first|omega|assumption) [zz,GU,wor,PD,CR,CM,VZ,-BitVec.toNat_or,-BitVec.toNat_xor,-BitVec.toNat_and])
   refine zcd (wC v4 11 (by decide) (by decide)) ?_;(simp (disch:=first|omega|assumption) [zz,GU,wor,PD,CR,CM,VZ,-BitVec.toNat_or,-BitVec.toNat_xor,-BitVec.toNat_and])
   refine zcd (wC v4 25 (by decide) (by decide)) ?_;(simp (disch:=first|omega|assumption) [zz,GU,wor,PD,CR,CM,VZ,-BitVec.toNat_or,-BitVec.toNat_xor,-BitVec.toNat_and,gk,gw])
   (repeat with_reducible refine om ?_)
   refine zcd (wC v0 2 (by decide) (by decide)) ?_;(simp (disch:=first|omega|assumption) [zz,GU,wor,PD,CR,CM,VZ,-BitVec.toNat_or,-BitVec.toNat_xor,-BitVec.toNat_and])
   refine zcd (wC v0 13 (by decide) (by decide)) ?_;(simp (disch:=first|omega|assumption) [zz,GU,wor,PD,CR,CM,VZ,-BitVec.toNat_or,-BitVec.toNat_xor,-BitVec.toNat_and])
   refine zcd (wC v0 22 (by decide) (by decide)) ?_;(simp (disch:=first|omega|assumption) [zz,GU,wor,PD,CR,CM,VZ,-BitVec.toNat_or,-BitVec.toNat_xor,-BitVec.toNat_and])
   (repeat with_reducible refine om ?_)
   refine hN _ (k+1) ?_ (by omega) (by omega)
   apply Le.of<;>simp[le9,hR,d9,qJ]<;>try omega
  ·obtain rfl:k=64:=by omega
   simp (disch:=omega) [zz,qJ]
   refine hE _ _ (by simp) ?_
   simp (disch:=omega) [zz,qJ]
   refine AT.loopV (α:=Nat) (fun k ver=>St.of [(0,.av .ptr (.ptr B (.arr 8 126) [])),(99,.av (.arr 8 126) (.agg ((rnd b s 64).map wW))),(100,.av (.int .i64) (.i .i64 k))] [] ver [(B,.var (.arr 8 126) (.agg (((kE s b).take k++s.drop k).map wW)))])
    (fun k=>k<=8) (fun k=>8-k) 0 ?_ ?_ ?_
   ·apply Le.of<;>simp[le9,qJ]<;>try omega
   ·simp
   ·rintro k ver2 hk KL2 hN2 hE2
    have hcl:=YM (b:=b) hs
    refine zrd zl4 ?_
    by_cases hlt:k<8
    ·have hlt':(k:Int)<8:=by omega
     have hrl:=VT (b:=b) hs 64
     obtain⟨x,hx⟩:∃x,s[k]?=some x:=⟨_,List.getElem?_eq_getElem (by omega)⟩
     obtain⟨y,hy⟩:∃x,(rnd b s 64)[k]?=some x:=⟨_,List.getElem?_eq_getElem (by omega)⟩
     have hsq:=zfP (C:=kE s b) rfl hs hrl hlt hx hy
     have hg:(((kE s b).take k++s.drop k).map wW)[k]?=some (wW x):=by
      rw[List.getElem?_map,List.getElem?_append_right (by rw[List.length_take];omega),List.getElem?_drop]
      simp[hcl,Nat.min_eq_left (Nat.le_of_lt hlt),hx]
     have hll:(((kE s b).take k++s.drop k).map wW).length=8:=by simp[hcl,hs];omega
     generalize ((kE s b).take k++s.drop k).map wW=Z at *
     generalize rnd b s 64=R at *
     have gy:∀g:k<R.length,R[k]=y:=fun g=>by rw[List.getElem?_eq_getElem g]at hy;simpa using hy
     have gz:∀g:k<Z.length,Z[k]=wW x:=fun g=>by rw[List.getElem?_eq_getElem g]at hg;simpa using hg
     simp (disch:=omega) [zz,hlt',gy,gz,hll,GU,qJ]
     (repeat with_reducible refine om ?_)
     refine hN2 _ (k+1) ?_ (by omega) (by omega)
     rw[List.map_append,List.map_take,List.map_drop]at hsq
     apply Le.of<;>simp[le9,hsq,qJ]<;>try omega
    ·obtain rfl:k=8:=by omega
     have e1:(kE s b).take 8++s.drop 8=kE s b:=by rw[List.take_of_length_le (by omega),List.drop_of_length_le (by omega),List.append_nil]
     simp (disch:=omega) [zz,qJ]
     refine hE2 _ _ (by simp) ?_
     simp (disch:=omega) [zz,Tryz.f154,qJ]
     try (rw[<-List.map_take,<-List.map_drop,<-List.map_append,e1])
     try simp[AV.erks_eq,Function.comp_def,AV.erk,qJ]

theorem zmU (B:Nat) (s:List UInt32) (b:List UInt8) (hs:s.length=8) (hb:b.length=64) {op nn:AV} (hop:op.erk=op) (hnn:nn.erk=nn) :
  q7 Tryz.prog 154 [.av .ptr (.ptr B (q9 Tryz.prog 208) [0]),.av (.slice 5) (yY b)] [(B,.var (q9 Tryz.prog 208) (.agg [.agg (s.map wW),op,nn]))] fun r H'=>r=.tup []/\H'=[(B,.var (q9 Tryz.prog 208) (.agg [.agg ((kE s b).map wW),op,nn]))]:=by
 refine zov Tryz.func154 zl4 fun imm0 w0=>?_
 simp (disch:=omega) [zz,hop,hnn]
 (repeat with_reducible refine om ?_)
 refine zcd (PH) ?_;(simp (disch:=first|omega|assumption) [zz,hop,hnn])
 (repeat with_reducible refine om ?_)
 refine qG (zdj b hb) rfl rfl (by simp) (by simp[qM,TV.er]) ?_
 simp (disch:=omega) [zz,hop,hnn]
 refine AT.loopV (α:=Nat) (fun k ver=>St.of [(0,.av .ptr (.ptr B (q9 Tryz.prog 208) [0])),(4,.loc 4 []),(5,.loc 5 []),(19,.av (.arr 64 126) (.agg ((QZ b 64).map wW))),(20,.av (.int .i64) (.i .i64 k))] [(4,(.arr 8 126,.agg ((rnd b s k).map wW))),(5,(.arr 64 126,.agg (k64.map wW)))] ver [(B,.var (q9 Tryz.prog 208) (.agg [.agg (s.map wW),op,nn]))])
  (fun k=>k<=64) (fun k=>64-k) 0 ?_ ?_ ?_
 ·apply Le.of<;>simp[le9,rnd,hop,hnn]<;>try omega
 ·simp
 ·rintro k ver hk KL hN hE
  refine zrd zl4 ?_
  by_cases hlt:k<64
  ·have hlt':(k:Int)<64:=by omega
   obtain⟨v0,v1,v2,v3,v4,v5,v6,v7,hv⟩:=zmJ (VT (b:=b) hs k)
   obtain⟨kk,hkk⟩:∃x,k64[k]?=some x:=⟨_,List.getElem?_eq_getElem (by simp[k64];omega)⟩
   obtain⟨ww,hww⟩:∃x,(QZ b 64)[k]?=some x:=⟨_,List.getElem?_eq_getElem (by simp;omega)⟩
   have hR:rnd b s (k+1)=d9 [v0,v1,v2,v3,v4,v5,v6,v7] kk ww:=by rw[rnd,hv,hkk,hww];rfl
   have hkl:k64.length=64:=rfl
   have hwl:=u9 b 64
   generalize k64=KK at *
   generalize QZ b 64=W at *
   have gk:∀h:k<KK.length,KK[k]=kk:=fun h=>by rw[List.getElem?_eq_getElem h]at hkk;simpa using hkk
   have gw:∀h:k<W.length,W[k]=ww:=fun h=>by rw[List.getElem?_eq_getElem h]at hww;simpa using hww
   simp (disch:=omega) [zz,hlt',hv,gw,hop,hnn]
   (repeat with_reducible refine om ?_)
   refine zcd (wC v4 6 (by decide) (by decide)) ?_;(simp (disch:=first|omega|assumption) [zz,GU,wor,PD,CR,CM,VZ,-BitVec.toNat_or,-BitVec.toNat_xor,-BitVec.toNat_and])
   refine zcd (wC v4 11 (by decide) (by decide)) ?_;(simp (disch:=first|omega|assumption) [zz,GU,wor,PD,CR,CM,VZ,-BitVec.toNat_or,-BitVec.toNat_xor,-BitVec.toNat_and])
   refine zcd (wC v4 25 (by decide) (by decide)) ?_;(simp (disch:=first|omega|assumption) [zz,GU,wor,PD,CR,CM,VZ,-BitVec.toNat_or,-BitVec.toNat_xor,-BitVec.toNat_and,gk,gw])
   (repeat with_reducible refine om ?_)
   refine zcd (wC v0 2 (by decide) (by decide)) ?_;(simp (disch:=first|omega|assumption) [zz,GU,wor,PD,CR,CM,VZ,-BitVec.toNat_or,-BitVec.toNat_xor,-BitVec.toNat_and])
   refine zcd (wC v0 13 (by decide) (by decide)) ?_;(simp (disch:=first|omega|assumption) [zz,GU,wor,PD,CR,CM,VZ,-BitVec.toNat_or,-BitVec.toNat_xor,-BitVec.toNat_and])
   refine zcd (wC v0 22 (by decide) (by decide)) ?_;(simp (disch:=first|omega|assumption) [zz,GU,wor,PD,CR,CM,VZ,-BitVec.toNat_or,-BitVec.toNat_xor,-BitVec.toNat_and])
   (repeat with_reducible refine om ?_)
   refine hN _ (k+1) ?_ (by omega) (by omega)
   apply Le.of<;>simp[le9,hR,d9,hop,hnn]<;>try omega
  ·obtain rfl:k=64:=by omega
   simp (disch:=omega) [zz,hop,hnn]
   refine hE _ _ (by simp) ?_
   simp (disch:=omega) [zz,hop,hnn]
   refine AT.loopV (α:=Nat) (fun k ver=>St.of [(0,.av .ptr (.ptr B (q9 Tryz.prog 208) [0])),(99,.av (.arr 8 126) (.agg ((rnd b s 64).map wW))),(100,.av (.int .i64) (.i .i64 k))] [] ver [(B,.var (q9 Tryz.prog 208) (.agg [.agg (((kE s b).take k++s.drop k).map wW),op,nn]))])
    (fun k=>k<=8) (fun k=>8-k) 0 ?_ ?_ ?_
   ·apply Le.of<;>simp[le9,hop,hnn]<;>try omega
   ·simp
   ·rintro k ver2 hk KL2 hN2 hE2
    have hcl:=YM (b:=b) hs
    refine zrd zl4 ?_
    by_cases hlt:k<8
    ·have hlt':(k:Int)<8:=by omega
     have hrl:=VT (b:=b) hs 64
     obtain⟨x,hx⟩:∃x,s[k]?=some x:=⟨_,List.getElem?_eq_getElem (by omega)⟩
     obtain⟨y,hy⟩:∃x,(rnd b s 64)[k]?=some x:=⟨_,List.getElem?_eq_getElem (by omega)⟩
     have hsq:=zfP (C:=kE s b) rfl hs hrl hlt hx hy
     have hg:(((kE s b).take k++s.drop k).map wW)[k]?=some (wW x):=by
      rw[List.getElem?_map,List.getElem?_append_right (by rw[List.length_take];omega),List.getElem?_drop]
      simp[hcl,Nat.min_eq_left (Nat.le_of_lt hlt),hx]
     have hll:(((kE s b).take k++s.drop k).map wW).length=8:=by simp[hcl,hs];omega
     generalize ((kE s b).take k++s.drop k).map wW=Z at *
     generalize rnd b s 64=R at *
     have gy:∀g:k<R.length,R[k]=y:=fun g=>by rw[List.getElem?_eq_getElem g]at hy;simpa using hy
     have gz:∀g:k<Z.length,Z[k]=wW x:=fun g=>by rw[List.getElem?_eq_getElem g]at hg;simpa using hg
     simp (disch:=omega) [zz,hlt',gy,gz,hll,GU,hop,hnn]
     (repeat with_reducible refine om ?_)
     refine hN2 _ (k+1) ?_ (by omega) (by omega)
     rw[List.map_append,List.map_take,List.map_drop]at hsq
     apply Le.of<;>simp[le9,hsq,hop,hnn]<;>try omega
    ·obtain rfl:k=8:=by omega
     have e1:(kE s b).take 8++s.drop 8=kE s b:=by rw[List.take_of_length_le (by omega),List.drop_of_length_le (by omega),List.append_nil]
     simp (disch:=omega) [zz,hop,hnn]
     refine hE2 _ _ (by simp) ?_
     simp (disch:=omega) [zz,Tryz.f154,hop,hnn]
     try (rw[<-List.map_take,<-List.map_drop,<-List.map_append,e1])
     try simp[AV.erks_eq,Function.comp_def,AV.erk,hop,hnn]
abbrev zs6:Cfg:=⟨fun n=>n==3,fun _=>false⟩
noncomputable abbrev gX:TyD:=q9 Tryz.prog 208
noncomputable def jT (B:Nat) (s:List UInt32) (op:AV) (n:Nat):q8:=[(B,.var gX (.agg [.agg (s.map wW),op,.i .u64 n]))]
theorem zmn:q7 Tryz.prog 121 [] [] fun r H'=>∃B,r=.av .ptr (.ptr B gX [])/\H'=jT B h8 (.sl .full []) 0:=by
 refine zov Tryz.func121 zs6 fun imm0 w0=>?_
 simp (disch:=omega) [zz]
 refine qG zod rfl rfl (by simp) (by simp[qM]) ?_
 simp (disch:=omega) [zz]
 intro B
 simp (disch:=omega) [zz,Tryz.f121]
 simp[jT,AV.erks_eq,Function.comp_def,AV.erk]

theorem zdv {t u:List UInt8}:∀ {n:Nat},64*n<=t.length->ZL (t++u) n=ZL t n
 | 0,_=>rfl
 | n+1,h=>by
  rw[ZL,ZL,zdv (by omega),List.drop_append_of_le_length (by omega),List.take_append_of_le_length (by simp;omega)]

abbrev zqM:Cfg:=⟨fun _=>false,fun n=>n==39⟩
theorem znk (B:Nat) (l:List UInt8) (hl:l.length<=1000000000000) :
  q7 Tryz.prog 122 [.av .ptr (.ptr B gX []),.av .str (.s l)] (jT B h8 (.sl .full []) 0) fun r H'=>r=.tup []/\H'=jT B (ZL l (l.length / 64)) (yY (l.drop (64*(l.length / 64)))) l.length:=by
 have hbe:∀x,yY x=.sl .no (x.map WY):=fun _=>rfl
 refine zov Tryz.func122 zqM fun imm0 w0=>?_
 simp (disch:=omega) [zz,jT,zi6,y4]
 (repeat with_reducible refine om ?_)
 refine AT.loopV (α:=Nat) (fun k ver=>St.of [(0,.av .ptr (.ptr B gX []))] [] ver (jT B (ZL l k) (yY (l.drop (64*k))) l.length))
  (fun k=>64*k<=l.length) (fun k=>l.length-64*k) 0 ?_ ?_ ?_
 ·refine Le.ofW ?_ ?_ ?_ ?_ ?_<;>simp[zA,qF,zep,zbz,zev,ze3,zmf,zhD,zeq,dC,zb7,Y9,J5,YH,J2,zO,zG,ZV,KO,jT,ZL,hbe]<;>try omega
 ·simp
 ·rintro k ver hk KL hN hE
  obtain⟨R,hR⟩:∃R,l.drop (64*k)=R:=⟨_,rfl⟩
  have hRl:R.length=l.length-64*k:=by rw[<-hR];simp
  have hkl:=d6 l k
  have hn1:ZL l (k+1)=kE (ZL l k) (R.take 64):=by rw[ZL,hR]
  have hn2:l.drop (64*(k+1))=R.drop 64:=by rw[<-hR,List.drop_drop];congr 1
  rw[hR]
  obtain⟨S,hS⟩:∃S,ZL l k=S:=⟨_,rfl⟩
  rw[hS]at hn1 hkl |-
  refine zrd zqM ?_
  by_cases hlt:64<=R.length
  ·have hlt':(64:Int)<=R.length:=by omega
   simp (disch:=omega) [zz,jT,hbe,hlt']
   (repeat with_reducible refine om ?_)
   refine wZ (R:=fun r H'=>r=.tup []/\H'=jT B (kE S (R.take 64)) (yY R) l.length) rfl (by simp[qI]) (by simp) ?_ ?_
   ·have:=zmU B S (R.take 64) hkl (by simp;omega) (op:=yY R) (nn:=.i .u64 l.length) (by simp) (by simp[AV.erk])
    simpa[jT,hbe,TV.er,AV.er,AV.ers_eq,AV.erk,AV.erks,AV.erks_eq,q8.er_cons,q8.er_nil,HObj.er_var,Function.comp_def,Tok.k]using this
   ·rintro r H' ⟨rfl,rfl⟩
    simp (disch:=omega) [zz,jT,hbe]
    (repeat with_reducible refine om ?_)
    refine hN _ (k+1) ?_ (by omega) (by omega)
    rw[hn1,hn2]
    have htk:List.take R.length (List.map WY R)=List.map WY R:=List.take_of_length_le (by simp)
    refine Le.ofW ?_ ?_ ?_ ?_ ?_<;>simp[zA,qF,zep,zbz,zev,ze3,zmf,zhD,zeq,dC,zb7,Y9,J5,YH,J2,zO,zG,ZV,KO,jT,hbe,htk]<;>try omega
  ·have hlt':¬(64:Int)<=R.length:=by omega
   have hk2:l.length / 64=k:=by omega
   simp (disch:=omega) [zz,jT,hbe,hlt']
   refine hE _ _ (by simp) ?_
   simp (disch:=omega) [zz,Tryz.f122,jT,hbe,hk2,hS,hR]
   simp[AV.erks_eq,Function.comp_def,AV.erk,Tok.k,AV.ers_eq,AV.er]

def KA (s:List UInt32) (t:List UInt8):Nat->List UInt32
 | 0=>s
 | n+1=>kE (KA s t n) ((t.drop (64*n)).take 64)
theorem zdk {s:List UInt32} (t:List UInt8) (hs:s.length=8):∀n,(KA s t n).length=8
 | 0=>hs
 | n+1=>YM (zdk t hs n)
def W7 (op:List UInt8) (n:Nat):List UInt8:=op++[128]++List.replicate (U5 op.length) 0++xH n
abbrev znp:Cfg:=⟨fun n=>n==3,fun _=>false⟩
theorem pI:∀l:List UInt8,bytesOf (l.map WY)=some l
 | []=>rfl
 | b::l=>by simp[bytesOf,pI l]
theorem zqe (B:Nat) (s:List UInt32) (op:List UInt8) (n:Nat) (hs:s.length=8) (hop:op.length<64) (hn:n<=1000000000000) :
  q7 Tryz.prog 123 [.av .ptr (.ptr B gX [])] (jT B s (yY op) n) fun r H'=>r=.av (q9 Tryz.prog 51) (W0 (xS (KA s (W7 op n) ((W7 op n).length / 64))))/\H'=jT B s (yY op) n:=by
 have hbe:∀x,yY x=.sl .no (x.map WY):=fun _=>rfl
 refine q7.drop (R:=fun r H'=>r=.av (q9 Tryz.prog 51) (W0 (xS (KA s (W7 op n) ((W7 op n).length / 64))))/\∃B2 o,H'=(B2,o)::jT B s (yY op) n) ?_ ?_
 rotate_left
 ·rintro r H' ⟨rfl,B2,o,rfl⟩
  exact⟨_,List.sublist_cons_self _ _,rfl,rfl⟩
 have hp:=zpn op.length
 refine zov Tryz.func123 znp fun imm0 w0=>?_
 simp (disch:=omega) [zz,jT,hbe]
 intro B2 hB2
 simp (disch:=omega) [zz,jT,hbe,pI,y4,hB2]
 (repeat with_reducible refine om ?_)
 refine AT.loopV (α:=Nat × Nat) (fun k ver=>St.of [(0,.av .ptr (.ptr B gX [])),(2,.loc 2 []),(3,.av .ptr (.ptr B2 (.arr 8 126) [])),(4,.av (.slice 5) (.sl (.own k.2 (ver k.2)) ((op++[128]++List.replicate k.1 0).map WY)))] [(2,(q9 Tryz.prog 51,.agg (List.replicate 32 (.i .u8 0))))] ver ((B2,.var (.arr 8 126) (.agg (s.map wW)))::jT B s (yY op) n))
  (fun k=>k.1<=U5 op.length) (fun k=>U5 op.length-k.1) (0,23) ?_ ?_ ?_
 ·apply Le.of<;>simp[le9,zfy,jT,hbe]<;>try omega
 ·simp
 rintro⟨k,tk⟩ ver hk KL hN hE
 simp only at hk hN
 refine zrd znp ?_
 have hlen:((op.length:Int)+((k:Int)+1)).tmod 64=(((op.length+1+k) % 64:Nat):Int):=by
  rw[Int.tmod_eq_emod_of_nonneg (by omega)];omega
 by_cases hkt:k<U5 op.length
 ·have hne:=zll hkt
  have hne':¬((op.length:Int)+((k:Int)+1)).tmod 64=56:=by rw[hlen];omega
  simp (disch:=omega) [zz,y4,hne']
  (repeat with_reducible refine om ?_)
  refine hN _ (k+1,30) ?_ (by first|omega|(simp;done)|(simp;omega)) (by first|omega|(simp;done)|(simp;omega));apply Le.of<;>simp[le9,List.replicate_succ',ze1,zfy]<;>try omega
 have hke:k=U5 op.length:=by omega
 subst hke
 have hsp:=zd1 op.length
 have hne':((op.length:Int)+((U5 op.length:Int)+1)).tmod 64=56:=by rw[hlen];omega
 simp (disch:=omega) [zz,hne']
 refine hE _ _ (by simp) ?_
 simp (disch:=omega) [zz,zi6]
 refine AT.loopV (α:=Nat × Nat) (fun k ver=>St.of [(0,.av .ptr (.ptr B gX [])),(2,.loc 2 []),(3,.av .ptr (.ptr B2 (.arr 8 126) [])),(4,.av (.slice 5) (.sl (.own k.2 (ver k.2)) ((op++[128]++List.replicate (U5 op.length) 0++(xH n).take (8-k.1)).map WY))),(5,.av (.int .i64) (.i .i64 (8*(k.1:Int)-8)))] [(2,(q9 Tryz.prog 51,.agg (List.replicate 32 (.i .u8 0))))] ver ((B2,.var (.arr 8 126) (.agg (s.map wW)))::jT B s (yY op) n))
  (fun k=>k.1<=8) (fun k=>k.1) (8,tk) ?_ ?_ ?_
 ·apply Le.of<;>simp[le9,jT,hbe]<;>try omega
 ·simp
 rintro⟨j,tk2⟩ ver2 hj KL2 hN2 hE2
 simp only at hj hN2
 refine zrd znp ?_
 cases j with
 | succ j =>
  have hlb:(xH n).length=8:=rfl
  have hst:=zlu n j (by omega)
  have e3:=zrY (n*8) (8*j) (by omega)
  have hst':((xH n).map WY).take (8-j)=((xH n).map WY).take (7-j)++[WY (UInt8.ofNat (n*8 / 2 ^ (8*j)))]:=by
   rw[<-List.map_take,hst,List.map_append,List.map_take];rfl
  have e8:=zqE (n*8 / 2 ^ (8*j))
  simp at e8
  have hge:(0:Int)<=8*(j:Int):=by omega
  push_cast at e3
  have hq:8*((j:Int)+1)-8=8*j:=by omega
  simp (disch:=omega) [zz,y4,e3,zqE,hge,jT,hq,hB2,Int.mul_comm 8 (n:Int),zi6]
  (repeat with_reducible refine om ?_)
  refine hN2 _ (j,45) ?_ (by first|omega|(simp;done)|(simp;omega)) (by first|omega|(simp;done)|(simp;omega));apply Le.of<;>simp[le9,hst',e8,jT,hbe]<;>try omega
 | zero =>
  simp (disch:=omega) [zz,jT]
  refine hE2 _ _ (by simp) ?_
  obtain⟨T,hT⟩:∃T,W7 op n=T:=⟨_,rfl⟩
  have hTm:T.length % 64=0:=by
   rw[<-hT];simp[W7,xH];omega
  obtain⟨M,hM⟩:∃M,T.length=64*M:=⟨T.length / 64,by omega⟩
  have hTl:T.length<=200:=by rw[<-hT];simp[W7,xH];omega
  have hTM:T.length / 64=M:=by omega
  have hTe:List.map WY op++WY 128::(List.replicate (U5 op.length) (WY 0)++List.take 8 (List.map WY (xH n)))=List.map WY T:=by
   rw[<-hT];simp[W7,xH]
  rw[hT,hTM]
  clear hE2 hN2
  simp (disch:=omega) [zz,jT,hTe]
  refine AT.loopV (α:=Nat) (fun k ver=>St.of [(0,.av .ptr (.ptr B gX [])),(2,.loc 2 []),(3,.av .ptr (.ptr B2 (.arr 8 126) [])),(4,.av (.slice 5) (yY (T.drop (64*k))))] [(2,(q9 Tryz.prog 51,.agg (List.replicate 32 (.i .u8 0))))] ver ((B2,.var (.arr 8 126) (.agg ((KA s T k).map wW)))::jT B s (yY op) n))
   (fun k=>k<=M) (fun k=>M-k) 0 ?_ ?_ ?_
  ·apply Le.of<;>simp[le9,jT,hbe,KA]<;>try omega
  ·simp
  rintro k ver3 hk KL3 hN3 hE3
  have hkl:=zdk T hs k
  refine zrd znp ?_
  by_cases hlt:k<M
  ·obtain⟨R,hR⟩:∃R,T.drop (64*k)=R:=⟨_,rfl⟩
   have hRl:R.length=T.length-64*k:=by rw[<-hR];simp
   have hn1:KA s T (k+1)=kE (KA s T k) (R.take 64):=by rw[KA,hR]
   have hn2:T.drop (64*(k+1))=R.drop 64:=by rw[<-hR,List.drop_drop];congr 1
   rw[hR]
   have hpos:0<R.length:=by omega
   simp (disch:=omega) [zz,jT,hbe,hpos]
   (repeat with_reducible refine om ?_)
   refine qD (R:=fun r H'=>r=.tup []/\H'=[(B2,.var (.arr 8 126) (.agg ((kE (KA s T k) (R.take 64)).map wW)))]) [(B2,.var (.arr 8 126) (.agg ((KA s T k).map wW)))] (jT B s (yY op) n) (by simp[jT,hbe]) rfl (by simp[qI]) (by simp) ?_ ?_
   ·have:=zpC B2 (KA s T k) (R.take 64) hkl (by simp;omega)
    simpa[jT,hbe,TV.er,AV.er,AV.ers_eq,AV.erk,AV.erks,AV.erks_eq,q8.er_cons,q8.er_nil,HObj.er_var,Function.comp_def,Tok.k]using this
   ·rintro r H' ⟨rfl,rfl⟩ _
    refine⟨_,HSub.refl _,?_⟩
    simp (disch:=omega) [zz,jT,hbe]
    (repeat with_reducible refine om ?_)
    have htk:List.take R.length (List.map WY R)=List.map WY R:=List.take_of_length_le (by simp)
    refine hN3 _ (k+1) ?_ (by omega) (by omega)
    rw[hn1,hn2]
    refine Le.ofW ?_ ?_ ?_ ?_ ?_<;>simp[zA,qF,zep,zbz,zev,ze3,zmf,zhD,zeq,dC,zb7,Y9,J5,YH,J2,zO,zG,ZV,KO,jT,hbe,htk]<;>try omega
  ·obtain rfl:k=M:=by omega
   have hdn:T.drop (64*k)=[]:=List.drop_eq_nil_of_le (by omega)
   rw[hdn]
   simp (disch:=omega) [zz,jT,hbe]
   refine hE3 _ _ (by simp) ?_
   simp (disch:=omega) [zz,jT]
   obtain⟨D,hD⟩:∃D,xS (KA s T k)=D:=⟨_,rfl⟩
   have hDl:D.length=32:=by rw[<-hD];exact zgn _
   refine AT.loopV (α:=Nat) (fun j ver=>St.of [(2,.loc 2 []),(3,.av .ptr (.ptr B2 (.arr 8 126) [])),(6,.loc 6 []),(54,.av (.int .i64) (.i .i64 j))] [(2,(q9 Tryz.prog 51,.agg (List.replicate 32 (.i .u8 0)))),(6,(q9 Tryz.prog 51,.agg ((D.take j++List.replicate (32-j) 0).map WY)))] ver ((B2,.var (.arr 8 126) (.agg ((KA s T k).map wW)))::jT B s (yY op) n))
    (fun j=>j<=32) (fun j=>32-j) 0 ?_ ?_ ?_
   ·apply Le.of<;>simp[le9,ze1,jT,hbe]<;>try omega
   ·simp
   ·rintro j ver4 hj KL4 hN4 hE4
    refine zrd znp ?_
    by_cases hjt:j<32
    ·obtain⟨q,hq⟩:∃q:Nat,j / 4=q:=⟨_,rfl⟩
     obtain⟨r,hr⟩:∃r:Nat,j % 4=r:=⟨_,rfl⟩
     have hq':(j:Int).tdiv 4=(q:Int):=by rw[Int.tdiv_eq_ediv_of_nonneg (by omega)];omega
     have hr':(j:Int).tmod 4=(r:Int):=by rw[Int.tmod_eq_emod_of_nonneg (by omega)];omega
     have hjt':(j:Int)<32:=by omega
     obtain⟨x,hx⟩:∃x,(KA s T k)[q]?=some x:=⟨_,List.getElem?_eq_getElem (by omega)⟩
     have hDj:D[j]?=some (x >>> UInt32.ofNat (24-8*r)).toUInt8:=by
      rw[<-hD]
      simp[xS,hjt,hq,hr,hx]
     have hsq:((D.take j++List.replicate (32-j) 0).map WY).set j (WY (x >>> UInt32.ofNat (24-8*r)).toUInt8)=(D.take (j+1)++List.replicate (32-(j+1)) 0).map WY:=by
      rw[<-List.map_set,List.take_add_one,hDj,show 32-j=(32-(j+1))+1 by omega,List.replicate_succ]
      simp[List.set_append_right,hDl,Nat.min_eq_left (Nat.le_of_lt hjt)]
     generalize KA s T k=H at *
     have hy:=ztm (x >>> UInt32.ofNat (24-8*r))
     generalize (x >>> UInt32.ofNat (24-8*r)).toUInt8=y at *
     have gx:∀g:q<H.length,H[q]=x:=fun g=>by rw[List.getElem?_eq_getElem g]at hx;simpa using hx
     simp (disch:=omega) [zz,hjt',hq',hr',gx,VZ,hy,jT]
     (repeat with_reducible refine om ?_)
     simp only[List.map_append,List.map_take,List.map_replicate,ze1]at hsq
     refine hN4 _ (j+1) ?_ (by first|omega|(simp;done)|(simp;omega)) (by first|omega|(simp;done)|(simp;omega));apply Le.of<;>simp[le9,hsq,ze1,jT]<;>try omega
    ·obtain rfl:j=32:=by omega
     simp (disch:=omega) [zz]
     refine hE4 _ _ (by simp) ?_
     simp (disch:=omega) [zz,Tryz.f123,jT]
     rw[hD,zpj,List.take_of_length_le (by simp[hDl])]
     simp[AV.ers_eq,Function.comp_def,AV.er,AV.erk,AV.erks_eq,hbe,Tok.k]
theorem cY (t:List UInt8) (q:Nat):∀m,ZL t (q+m)=KA (ZL t q) (t.drop (64*q)) m
 | 0=>rfl
 | m+1=>by
  rw[<-Nat.add_assoc,ZL,KA,cY t q m,List.drop_drop]
  congr 3;omega
theorem zeO (l:List UInt8):(Y0 l).drop (64*(l.length / 64))=W7 (l.drop (64*(l.length / 64))) l.length:=by
 have hp:U5 (l.length-64*(l.length / 64))=U5 l.length:=by unfold U5;omega
 have h0:64*(l.length / 64)<=l.length:=by omega
 simp only[Y0,W7,List.length_drop,hp,List.append_assoc]
 rw[List.drop_append_of_le_length h0]
theorem zky (l:List UInt8):xS (KA (ZL l (l.length / 64)) (W7 (l.drop (64*(l.length / 64))) l.length) ((W7 (l.drop (64*(l.length / 64))) l.length).length / 64))=sha l:=by
 have hm:=zhP l
 have hs:=zeO l
 have hlen:(Y0 l).length / 64=l.length / 64+(W7 (l.drop (64*(l.length / 64))) l.length).length / 64:=by
  rw[<-hs,List.length_drop]
  have:l.length<=(Y0 l).length:=by simp[Y0]
  omega
 have ha:ZL (Y0 l) (l.length / 64)=ZL l (l.length / 64):=by
  have:Y0 l=l++([128]++List.replicate (U5 l.length) 0++xH l.length):=by simp[Y0]
  rw[this]
  exact zdv (by omega)
 rw[sha,hlen,cY,hs,ha]

def zgF (l:List UInt8):AV:=.sl .no [.s l]
theorem zo6 (l:List UInt8) (hl:l.length<=1000000000000):PC Tryz.prog 83 [.av (.slice 9) (zgF l)] (.av (q9 Tryz.prog 51) (W0 (sha l))):=by
 have hbe:∀x,yY x=.sl .no (x.map WY):=fun _=>rfl
 refine zow Tryz.func83 cf0 fun imm0 w0=>?_
 simp (disch:=omega) [zz,zgF]
 refine wZ (R:=fun r H'=>∃B,r=.av .ptr (.ptr B gX [])/\H'=jT B h8 (.sl .full []) 0) rfl (by simp[qI]) (by simp) ?_ ?_
 ·simpa[q8.er_nil]using zmn
 rintro r H' ⟨B,rfl,rfl⟩
 simp (disch:=omega) [zz,jT]
 refine AT.loopV (α:=Nat) (fun k ver=>St.of [(2,.loc 2 []),(3,.av .ptr (.ptr B gX [])),(7,.av (.slice 9) (.sl .no [.s l])),(8,.av (.int .i64) (.i .i64 1)),(9,.av (.int .i64) (.i .i64 k))] [(2,(q9 Tryz.prog 51,.agg (List.replicate 32 (.i .u8 0))))] ver
   (match k with|0=>jT B h8 (.sl .full []) 0|_+1=>jT B (ZL l (l.length / 64)) (yY (l.drop (64*(l.length / 64)))) l.length))
  (fun k=>k<=1) (fun k=>1-k) 0 ?_ ?_ ?_
 ·apply Le.of<;>simp[le9,jT]<;>try omega
 ·simp
 rintro k ver hk KL hN hE
 refine zrd cf0 ?_
 cases k with
 | zero =>
  simp (disch:=omega) [zz,jT]
  refine wZ (R:=fun r H'=>r=.tup []/\H'=jT B (ZL l (l.length / 64)) (yY (l.drop (64*(l.length / 64)))) l.length) rfl (by simp[qI]) (by simp) ?_ ?_
  ·have:=znk B l hl
   simpa[jT,TV.er,AV.er,AV.ers_eq,AV.erk,AV.erks,AV.erks_eq,q8.er_cons,q8.er_nil,HObj.er_var,Function.comp_def,Tok.k]using this
  ·rintro r H' ⟨rfl,rfl⟩
   simp (disch:=omega) [zz,jT]
   refine hN _ 1 ?_ (by first|omega|(simp;done)|(simp;omega)) (by first|omega|(simp;done)|(simp;omega));apply Le.of<;>simp[le9,jT]<;>try omega
 | succ k =>
  obtain rfl:k=0:=by omega
  simp (disch:=omega) [zz,jT]
  refine hE _ _ (by simp) ?_
  simp (disch:=omega) [zz,jT]
  refine wZ (R:=fun r H'=>r=.av (q9 Tryz.prog 51) (W0 (sha l))/\H'=jT B (ZL l (l.length / 64)) (yY (l.drop (64*(l.length / 64)))) l.length) rfl (by simp[qI]) (by simp) ?_ ?_
  ·have:=zqe B (ZL l (l.length / 64)) (l.drop (64*(l.length / 64))) l.length (d6 l _) (by simp;omega) hl
   rw[zky]at this
   simpa[jT,TV.er,AV.er,AV.ers_eq,AV.erk,AV.erks,AV.erks_eq,q8.er_cons,q8.er_nil,HObj.er_var,Function.comp_def,Tok.k]using this
  ·rintro r H' ⟨rfl,rfl⟩
   simp (disch:=omega) [zz,Tryz.f83]
end Go.Proofs.YtfkcpballfhddaaGreatDoor
end
section
set_option maxRecDepth 100000
namespace Go.Proofs.YtfkcpballfhddaaGreatDoor
open Go Go.Ab
open Classical
variable [Sel] [SelPow] [SelMax]
theorem KS.split {q:KS} {b:j9} (hq:q.OK b) (B:Nat):∃M:q8,q.core B b=(B,zY q.R b.outs (jN q.bo q.bi q.ba) q.W q.rd b.asks b.over b.why)::M/\M.er=M:=by
 obtain⟨_,hMe,hHe,_⟩:=hq.er B
 exact⟨(q.W,wrO b.wrote)::(q.M b++q.HR),rfl,by simp only[q8.er_cons,q8.er_app,hMe,hHe,W3]⟩
theorem zqc (B:Nat) {b:j9} {H:q8} (hH:KP B b H) :
  q7 Tryz.prog 46 [.av .ptr (.ptr B VY [])] H fun y H'=>y=.tup [(.str,.s (if b.over=true then [] else b.asks)),(.bool,.b (!b.over))]/\KP B b H':=by
 obtain⟨q,hq,rfl⟩:=hH
 obtain⟨_,_,_,hre⟩:=hq.er B
 obtain⟨M,hM,hMe⟩:=KS.split hq B
 refine q7.sub (R:=fun y H'=>y=.tup [(.str,.s (if b.over=true then [] else b.asks)),(.bool,.b (!b.over))]/\∃H2,Ab.HSub H2 H'/\H2=q.core B b) ?_ fun y H' ⟨h1,H2,h2,h3⟩ _=>⟨H2,h2,h1,q,hq,h3⟩
 rw[hM]
 obtain⟨ov,hov⟩:∃ov,ov=b.over:=⟨_,rfl⟩
 rw[<-hov]
 cases ov with
 | true =>
  refine zov Tryz.func46 cf0 fun imm0 w0=>?_
  simp (disch:=omega) [zz,zY]
  simp (disch:=omega) [zz,hMe,hre,jN,Tryz.f46]
  exact HSub.refl _
 | false =>
  refine zov Tryz.func46 cf0 fun imm0 w0=>?_
  simp (disch:=omega) [zz,zY]
  simp (disch:=omega) [zz,hMe,hre,jN,Tryz.f46]
  exact HSub.refl _
abbrev ztp:Cfg:=⟨fun _=>false,fun n=>n==5⟩
theorem ziC (l:List xE) (b cap:Nat) (j:List AV) (hj:JK j) (hcap:l.length+j.length=cap) (hn:l.length<=1000) :
  q7 Tryz.prog 80 [.av (.slice 53) (.msl b 53 0 l.length cap)] [(b,wJ cap l j)]
   fun r H'=>r=.av (.slice 53) (zO l)/\H'=[(b,wJ cap l j)]:=by
 have htk:(l.map zG++j).take l.length=l.map zG:=by rw[List.take_append_of_le_length (by simp)];exact List.take_of_length_le (by simp)
 have her:AV.erks (l.map zG++j)=l.map zG++j:=JK.app (GR l) hj
 have h1:q7 Tryz.prog 80 [.av (.slice 53) (.msl b 53 0 l.length cap)] [(b,wJ cap l j)]
   fun r H'=>∃b' cap' j',JK j'/\l.length+j'.length=cap'/\r=.av (.slice 53) (.msl b' 53 0 l.length cap')/\H'=[(b',wJ cap' l j'),(b,wJ cap l j)]:=by
  refine q7.sub (R:=fun r H'=>∃b' cap' j',JK j'/\l.length+j'.length=cap'/\r=.av (.slice 53) (.msl b' 53 0 l.length cap')/\HSub [(b',wJ cap' l j'),(b,wJ cap l j)] H') ?_ fun r H' ⟨b',cap',j',h1,h2,h3,h4⟩ _=>⟨_,h4,b',cap',j',h1,h2,h3,rfl⟩
  refine zov Tryz.func80 ztp fun imm0 w0=>?_
  simp (disch:=omega) [zz,-List.reduceReplicate,wJ]
  intro b5 hb5
  simp (disch:=omega) [zz,-List.reduceReplicate,hb5,htk]
  have hb5':¬b=b5:=fun e=>hb5 e.symm
  refine⟨by omega,⟨by omega,by omega⟩,fun h0=>?_,fun h0 b' cap' h1 h2 hc=>?_⟩
  ·have:l=[]:=by
    rcases h0 with h0|h0
    ·exact h0
    ·simpa using h0.1
   subst this
   (simp (maxSteps:=2000000) (disch:=first|omega|assumption) [zz,-List.reduceReplicate,Tryz.f80,hj,her])
   refine⟨b5,0,[],JK.nil,by simp,by simp,HSub.of_sub ?_⟩
   have:AV.erks j=j:=hj
   simp[this]
  ·have hz:=JK.app (GR l) (JK.rep (z:=.agg [.s [],.b false,.agg (List.replicate 32 (.i .u8 0))]) (by rfl) (cap'-l.length))
   unfold JK at hz
   (simp (maxSteps:=2000000) (disch:=first|omega|assumption) [zz,-List.reduceReplicate,Tryz.f80,hz,her])
   refine⟨b',cap',List.replicate (cap'-l.length) (.agg [.s [],.b false,.agg (List.replicate 32 (.i .u8 0))]),JK.rep rfl _,by simp;omega,⟨rfl,rfl⟩,⟨_,List.Perm.refl _,?_⟩⟩
   exact((List.Sublist.refl _).cons _).cons_cons _
 refine h1.freeze laid ?_
 rintro r H' ⟨b',cap',j',hj',hc',rfl,rfl⟩ _
 left
 refine⟨b',cap',53,_,[(b,wJ cap l j)],List.Perm.refl _,?_,rfl⟩
 simp only[CQ,fzA]
 rw[if_pos ⟨trivial,trivial,by omega,by omega⟩]
 simp only[List.drop_zero]
 rw[List.take_append_of_le_length (by simp),List.take_of_length_le (by simp)]
 rfl
theorem zit (l:List xE) (rd:AV) (RD:q8) (h:zaS l rd RD) (hn:l.length<=1000) :
  q7 Tryz.prog 80 [.av (.slice 53) rd] RD fun r H'=>r=.av (.slice 53) (zO l)/\H'=RD:=by
 rcases h with⟨rfl,rfl,rfl⟩|⟨T,cap,j,hj,rfl,hc,rfl⟩
 ·refine zov Tryz.func80 cf0 fun imm0 w0=>?_
  simp (disch:=omega) [zz,Tryz.f80,zO]
 ·exact ziC l T cap j hj hc hn
def tkS (s k:Nat):Ab.Tok:=match k with|0=>.full|k+1=>.own s (k+1)
noncomputable def foB (l:List (Txt × Txt)) (p:Txt):jM:=⟨p,((l.find? fun x=>decide (x.1=p)).getD ([],[])).2⟩
abbrev zlN:Cfg:=⟨fun _=>false,fun n=>n==52⟩
theorem ziv (B:Nat) {b:j9} {H:q8} (hH:KP B b H) (hr:b.reads.length<=1000) (hw:b.wrote.length<=1000000) :
  q7 Tryz.prog 47 [.av .ptr (.ptr B VY [])] H fun y H'=>y=.tup [(q9 Tryz.prog 46,qU (JH b).1),(.bool,.b (JH b).2)]/\KP B b H':=by
 obtain⟨q,hq,rfl⟩:=hH
 obtain⟨_,hMe0,hHe,hre⟩:=hq.er B
 refine q7.sub (R:=fun y H'=>y=.tup [(q9 Tryz.prog 46,qU (JH b).1),(.bool,.b (JH b).2)]/\∃H2,Ab.HSub H2 H'/\H2=q.core B b) ?_ fun y H' ⟨h1,H2,h2,h3⟩ _=>⟨H2,h2,h1,q,hq,h3⟩
 by_cases ho:b.over=true
 rotate_left
 ·have ho':b.over=false:=by simpa using ho
  obtain⟨M,hM,hMe⟩:=KS.split hq B
  rw[hM]
  refine zov Tryz.func47 zlN fun imm0 w0=>?_
  simp (disch:=omega) [zz,zY,ho']
  simp (disch:=omega) [zz,hMe,hre,jN,Tryz.f47,JH,ho',qU,qH,zO]
  exact HSub.refl _
 refine q7.nodup fun hnd=>?_
 simp[KS.core,q8.keys]at hnd
 obtain⟨⟨n1,n2⟩,n3⟩:=hnd
 have n1':¬q.W=B:=fun e=>n1 e.symm
 obtain⟨M,hM⟩:∃M:q8,M=xG q.bo q.bi q.ba b.outs q.ins q.ask++q.HR:=⟨_,rfl⟩
 have hMe:M.er=M:=by rw[hM,q8.er_app,hHe,pH]
 have hp1:(q.core B b).Perm ((B,zY q.R b.outs (jN q.bo q.bi q.ba) q.W q.rd b.asks b.over b.why)::(q.W,wrO b.wrote)::(q.RD++M)):=by
  refine List.perm_iff_count.2 fun a=>?_
  simp only[KS.core,KS.M,hM,List.count_append,List.count_cons];omega
 have hRe:=hq.reads.er.1
 have hcl:=zit b.reads q.rd q.RD hq.reads hr
 have hwe:=W3 b.wrote
 have hers:AV.ers (b.reads.map zG)=b.reads.map zG:=by simp[AV.ers_eq,Function.comp_def]
 refine q7.perm hp1 ?_
 obtain⟨rd,hrd⟩:∃rd,rd=q.rd:=⟨_,rfl⟩
 have hrer:rd.er=rd:=by
  rw[hrd]
  rcases hq.reads with⟨_,e,_⟩|⟨T,cap,j,_,e,_⟩<;>rw[e]<;>rfl
 rw[<-hrd]at hcl hre hp1 |-
 have back:∀H':q8,Ab.HSub ((B,zY q.R b.outs (jN q.bo q.bi q.ba) q.W rd b.asks b.over b.why)::(q.W,wrO b.wrote)::(q.RD++M)) H'->Ab.HSub (q.core B b) H':=fun H' h=>uU (HSub.of_perm hp1.symm) h
 have hcp:((B,zY q.R b.outs (jN q.bo q.bi q.ba) q.W rd b.asks b.over b.why)::(q.W,wrO b.wrote)::(q.RD++M)).Perm (q.RD++(B,zY q.R b.outs (jN q.bo q.bi q.ba) q.W rd b.asks b.over b.why)::(q.W,wrO b.wrote)::M):=by
  refine List.perm_iff_count.2 fun a=>?_
  simp only[List.count_append,List.count_cons];omega
 by_cases hy:b.why=0
 rotate_left
 ·refine zov Tryz.func47 zlN fun imm0 w0=>?_
  simp (disch:=omega) [zz,zY,ho,n1,n1']
  (repeat with_reducible refine om ?_)
  refine GW (r:=.av (.slice 53) (zO b.reads)) (bs:=[.av (.slice 53) rd]) q.RD ((B,zY q.R b.outs (jN q.bo q.bi q.ba) q.W rd b.asks b.over b.why)::(q.W,wrO b.wrote)::M) ?_ (by rw[hRe];exact hcl) rfl (by simp[qI]) (by simp) ?_ ?_
  ·simpa[zY,ho]using hcp
  ·simp[qM,TV.er,hrer]
  simp (disch:=omega) [zz,zY,ho,hy,n1,n1']
  have hme:(jN q.bo q.bi q.ba).erk=jN q.bo q.bi q.ba:=rfl
  have ho1:JH b=(⟨2,b.why,[],b.reads⟩,true):=by unfold JH;rw[if_neg (by rw[ho];decide),if_neg hy]
  simp (disch:=omega) [zz,hMe,hRe,hre,hwe,hme,ho1,hers,qU,qH,zO,Tryz.f47,ho]
  (repeat with_reducible refine om ?_)
  refine back _ ?_
  simp only[zY,ho]
  exact HSub.refl _
 ·refine zov Tryz.func47 zlN fun imm0 w0=>?_
  simp (disch:=omega) [zz,zY,ho,n1,n1']
  (repeat with_reducible refine om ?_)
  refine GW (r:=.av (.slice 53) (zO b.reads)) (bs:=[.av (.slice 53) rd]) q.RD ((B,zY q.R b.outs (jN q.bo q.bi q.ba) q.W rd b.asks b.over b.why)::(q.W,wrO b.wrote)::M) ?_ (by rw[hRe];exact hcl) rfl (by simp[qI]) (by simp) ?_ ?_
  ·simpa[zY,ho]using hcp
  ·simp[qM,TV.er,hrer]
  simp (disch:=omega) [zz,zY,ho,hy,n1,n1']
  (repeat with_reducible refine om ?_)
  have hme:(jN q.bo q.bi q.ba).erk=jN q.bo q.bi q.ba:=rfl
  have ho1:JH b=(⟨1,0,KB b,b.reads⟩,true):=by unfold JH;rw[if_neg (by rw[ho];decide),if_pos hy]
  obtain⟨bo,hbo⟩:∃bo,bo=zY q.R b.outs (jN q.bo q.bi q.ba) q.W rd b.asks b.over b.why:=⟨_,rfl⟩
  have hbo':HObj.var VY (.agg [.ptr q.R wH [],.sl .no (strs b.outs),jN q.bo q.bi q.ba,.map (some q.W),rd,.s b.asks,.b true,.i .i64 0])=bo:=by rw[hbo,zY,ho,hy]
  have hboe:bo.er=bo:=by rw[hbo];exact KC hme hre
  rw[<-hbo]at back
  have hbo2:=hbo'
  refine qD (R:=fun r H'=>∃c,r=.av .func (.fn 120 [.ptr c WrT []])/\H'=[(c,wbO q.W)]) [] ((B,bo)::(q.W,wrO b.wrote)::(q.RD++M)) (by rw[<-hbo'];exact List.Perm.refl _) rfl (by simp[qI]) (by simp) ?_ ?_
  ·have:=zob q.W
   simpa[TV.er,AV.er,AV.ers,q8.er_nil]using this
  rintro r' H' ⟨c,rfl,rfl⟩ hnd
  simp[q8.keys]at hnd
  have hcW:c≠q.W:=hnd.1.2.1
  have hcB:¬c=B:=hnd.1.1
  have hcB':¬B=c:=fun e=>hcB e.symm
  refine⟨_,HSub.refl _,?_⟩
  simp (disch:=omega) [zz]
  have hwb:(wbO q.W).er=wbO q.W:=rfl
  obtain⟨ks,hks⟩:∃ks,ks=kU (b.wrote.map (·.1)):=⟨_,rfl⟩
  have hkl:ks.length<=1000000:=by rw[hks,ZA];simpa using hw
  refine qD (R:=wS (b.wrote.map (·.1)) [(q.W,wrO b.wrote),(c,wbO q.W)]) [(q.W,wrO b.wrote),(c,wbO q.W)] ((B,bo)::(q.RD++M)) ?_ rfl (by simp[qI]) (by simp) ?_ ?_
  ·refine List.perm_iff_count.2 fun a=>?_
   simp only[List.count_append,List.count_cons,List.count_nil];omega
  ·have:=zhO (zk2 c q.W hcW b.wrote) (by simpa using hw)
   simpa[TV.er,AV.er,AV.ers,q8.er_cons,q8.er_nil,hwe,hwb]using this
  rintro r' H' ⟨v,H1,rfl,hrow,rfl⟩ hnd2
  rw[<-hks]at hrow
  have hmem:∀p∈ks,p∈b.wrote.map (·.1):=fun p hp=>by rw[hks]at hp;exact(JU _).mem_iff.1 hp
  have hob:KB b=ks.map (foB b.wrote):=by rw[hks];rfl
  rcases hrow with⟨hk0,rfl,rfl⟩|⟨T,cap,j,hj,rfl,hcap,rfl⟩
  ·refine⟨(B,bo)::(q.W,wrO b.wrote)::(q.RD++M),⟨(c,wbO q.W)::(B,bo)::(q.W,wrO b.wrote)::(q.RD++M),?_,(List.Sublist.refl _).cons _⟩,?_⟩
   ·refine List.perm_iff_count.2 fun a=>?_
    simp only[List.count_append,List.count_cons,List.count_nil];omega
   simp (disch:=omega) [zz]
   rw[<-hbo2]
   refine AT.loop' (α:=Nat) (fun k=>St.of [(0,.av .ptr (.ptr B VY [])),(2,.loc 2 []),(4,.loc 4 []),(35,.av (.int .i64) (.i .i64 0)),(36,.av (.int .i64) (.i .i64 k))] [(2,(q9 Tryz.prog 46,.agg [.i .i64 0,.i .i64 0,.sl .full [],.sl .full []])),(4,(q9 Tryz.prog 46,.agg [.i .i64 1,.i .i64 0,.sl .full [],zO b.reads]))] (fun _=>0) ((B,.var VY (.agg [.ptr q.R wH [],.sl .no (strs b.outs),jN q.bo q.bi q.ba,.map (some q.W),rd,.s b.asks,.b true,.i .i64 0]))::(q.W,wrO b.wrote)::(q.RD++M)))
    (fun k=>k=0) (fun _=>0) 0 ?_ ?_ ?_
   ·apply Le.of<;>simp[zA,qF,qJ]<;>try omega
   ·rfl
   rintro k rfl KL hN hE
   refine zrd zlN ?_
   simp (disch:=omega) [zz]
   refine hE _ _ (by simp) ?_
   have hob2:KB b=[]:=by rw[hob,hk0];rfl
   simp (disch:=omega) [zz,hMe,hRe,hre,hwe,hme,ho1,hob2,hers,qU,qH,zO,Tryz.f47]
   refine back _ ?_
   rw[<-hbo']
   exact HSub.refl _
  ·have hTn:T≠q.W/\T≠c/\T≠B:=by
    simp[q8.keys]at hnd2
    exact⟨hnd2.1.1,hnd2.1.2.1,hnd2.1.2.2.1⟩
   obtain⟨nT1,nT2,nT3⟩:=hTn
   have nT1':¬q.W=T:=fun e=>nT1 e.symm
   have nT3':¬B=T:=fun e=>nT3 e.symm
   have hrk:=YG (cap:=cap) (ts:=ks) hj
   have hgA:=fun(k:Nat) (h:k<ks.length)=>XN ks j k h
   refine⟨(T,yR cap ks j)::(B,bo)::(q.W,wrO b.wrote)::(q.RD++M),⟨(c,wbO q.W)::(T,yR cap ks j)::(B,bo)::(q.W,wrO b.wrote)::(q.RD++M),?_,(List.Sublist.refl _).cons _⟩,?_⟩
   ·refine List.perm_iff_count.2 fun a=>?_
    simp only[yR,List.count_append,List.count_cons,List.count_nil];omega
   simp (disch:=omega) [zz]
   rw[<-hbo2]
   refine AT.loop' (α:=Nat) (fun k=>St.of [(0,.av .ptr (.ptr B VY [])),(2,.loc 2 []),(4,.loc 4 []),(34,.av (.slice 9) (.msl T 9 0 ks.length cap)),(35,.av (.int .i64) (.i .i64 ks.length)),(36,.av (.int .i64) (.i .i64 k))]
     [(2,(q9 Tryz.prog 46,.agg [.i .i64 0,.i .i64 0,.sl .full [],.sl .full []])),(4,(q9 Tryz.prog 46,.agg [.i .i64 1,.i .i64 0,.sl (tkS 51 k) ((ks.take k).map fun p=>qS (foB b.wrote p)),zO b.reads]))] (fun j=>if j=51 then k else 0)
     ((T,yR cap ks j)::(B,.var VY (.agg [.ptr q.R wH [],.sl .no (strs b.outs),jN q.bo q.bi q.ba,.map (some q.W),rd,.s b.asks,.b true,.i .i64 0]))::(q.W,wrO b.wrote)::(q.RD++M)))
    (fun k=>k<=ks.length) (fun k=>ks.length-k) 0 ?_ ?_ ?_
   ·apply Le.of<;>simp[zA,qF,tkS]<;>try omega
   ·omega
   rintro k hk KL hN hE
   refine zrd zlN ?_
   by_cases hlt:k<ks.length
   ·have hlt':(k:Int)<ks.length:=by omega
    have hg:=hgA k hlt
    have hst:((ks.take (k+1)).map fun p=>qS (foB b.wrote p))=((ks.take k).map fun p=>qS (foB b.wrote p))++[qS (foB b.wrote ks[k])]:=by
     rw[List.take_succ_eq_append_getElem hlt,List.map_append];rfl
    have htl:((ks.take k).map fun p=>qS (foB b.wrote p)).length=k:=by rw[List.length_map,List.length_take];omega
    obtain⟨x,hx⟩:=zex (hmem ks[k] (List.getElem_mem hlt))
    have hmf:=PV ks[k] b.wrote
    rw[hx]at hmf
    have hfo:qS (foB b.wrote ks[k])=.agg [.s ks[k],.s x.2]:=by
     unfold foB qS;simp[hx]
    rw[hfo]at hst
    obtain⟨p,hp⟩:∃p,p=ks[k]:=⟨_,rfl⟩
    rw[<-hp]at hg hst hmf
    cases k with
    | zero =>
     have hlt':(0:Int)<ks.length:=by omega
     simp (disch:=omega) [zz,hlt',hlt,hg,hmf,tkS,yR,wrO,nT1,nT1',nT3,nT3',n1,n1']
     (repeat with_reducible refine om ?_)
     simp (disch:=omega) [zz,y4]
     (repeat with_reducible refine om ?_)
     refine hN _ 1 ?_ (by omega) (by omega)
     rw[hst]
     apply Le.of<;>simp[zA,qF,tkS,yR,wrO]<;>try omega
     all_goals (intro j;by_cases hj:j=51<;>simp[hj])
    | succ k =>
     have hlt':(k:Int)+1<ks.length:=by omega
     have hge:(0:Int)<=(k:Int)+1:=by omega
     simp (disch:=omega) [zz,hlt',hlt,hg,hmf,tkS,yR,wrO,nT1,nT1',nT3,nT3',n1,n1']
     (repeat with_reducible refine om ?_)
     simp (disch:=omega) [zz,y4,htl]
     (repeat with_reducible refine om ?_)
     refine hN _ (k+2) ?_ (by omega) (by omega)
     rw[hst]
     apply Le.of<;>simp[zA,qF,tkS,yR,wrO]<;>try omega
     all_goals (intro j;by_cases hj:j=51<;>simp[hj])
   ·have hkn:k=ks.length:=by omega
    subst hkn
    have hlt':¬(ks.length:Int)<ks.length:=by omega
    simp (disch:=omega) [zz,hlt']
    refine hE _ _ (by simp) ?_
    have hfin:((ks.take ks.length).map fun p=>qS (foB b.wrote p))=(KB b).map qS:=by rw[List.take_length,hob,List.map_map];rfl
    have hen:AV.ers (ks.map fun p=>qS (foB b.wrote p))=(KB b).map qS:=by rw[hob,List.map_map];simp[AV.ers_eq,Function.comp_def]
    simp (disch:=omega) [zz,hMe,hRe,hre,hwe,hme,hrk,ho1,hen,hers,qU,qH,zO,Tryz.f47]
    refine back _ ?_
    rw[<-hbo']
    exact HSub.of_sub ((List.Sublist.refl _).cons _)
abbrev ziB:Cfg:=⟨fun _=>false,fun n=>n==1000010||n==2000048||n==2000050||n==1000011||n==2000056⟩
noncomputable def zaM (k:KnV) (b:j9):j9:={ b with reads:=b.reads++[QU k],run:=(J7 k b.run).2 }
structure ziK (k:KnV) (b:j9):Prop where
 give:(J7 k b.run).1=0
 good:ZN (zaM k b)
 go:∃n,goN n (zaM k b)=some (ZS (zaM k b))
theorem zmW (B:Nat) {b:j9} {H:q8} (hH:KP B b H) (hg:ZN b) (k:KnV) (hkl:k.data.length<=1000000000000000) (hr:b.reads.length<=1000)
  (hgo:b.over=false->k.path=b.asks->¬(k.is=true/\65536<k.data.length)->ziK k b) :
  q7 Tryz.prog 49 [.av .ptr (.ptr B VY []),.av KnT (kA k)] H fun y H'=>y=.av (.int .i64) (.i .i64 (yN k b).1)/\KP B (yN k b).2 H':=by
 obtain⟨q,hq,rfl⟩:=hH
 obtain⟨_,hMe0,hHe,hre⟩:=hq.er B
 obtain⟨M,hM,hMe⟩:=KS.split hq B
 by_cases ho:b.over=true
 ·have hv:yN k b=(19,b):=by unfold yN;exact if_pos ho
  rw[hv]
  refine q7.sub (R:=fun y H'=>y=.av (.int .i64) (.i .i64 19)/\∃H2,Ab.HSub H2 H'/\H2=q.core B b) ?_ fun y H' ⟨h1,H2,h2,h3⟩ _=>⟨H2,h2,h1,q,hq,h3⟩
  rw[hM]
  refine zov Tryz.func49 ziB fun imm0 w0=>?_
  simp (disch:=omega) [zz,kA,zY,ho]
  simp (disch:=omega) [zz,hMe,hre,jN,Tryz.f49,ho]
  exact HSub.refl _
 have ho':b.over=false:=by simpa using ho
 by_cases hp:k.path=b.asks
 rotate_left
 ·have hv:yN k b=(1,b):=by unfold yN;rw[if_neg ho,if_pos hp]
  rw[hv]
  refine q7.sub (R:=fun y H'=>y=.av (.int .i64) (.i .i64 1)/\∃H2,Ab.HSub H2 H'/\H2=q.core B b) ?_ fun y H' ⟨h1,H2,h2,h3⟩ _=>⟨H2,h2,h1,q,hq,h3⟩
  rw[hM]
  refine zov Tryz.func49 ziB fun imm0 w0=>?_
  (simp (maxSteps:=2000000) (disch:=first|omega|assumption) [zz,-List.reduceReplicate,kA,zY,ho'])
  (repeat with_reducible refine om ?_)
  simp (disch:=omega) [zz,hp]
  simp (disch:=omega) [zz,hMe,hre,jN,Tryz.f49,ho']
  exact HSub.refl _
 by_cases hbig:k.is=true/\65536<k.data.length
 ·have hb':(65536:Int)<k.data.length:=by omega
  have hki:=hbig.1
  have hv:yN k b=(6,b):=by unfold yN;rw[if_neg ho,if_neg (by simp[hp]),if_pos hbig]
  rw[hv]
  refine q7.sub (R:=fun y H'=>y=.av (.int .i64) (.i .i64 6)/\∃H2,Ab.HSub H2 H'/\H2=q.core B b) ?_ fun y H' ⟨h1,H2,h2,h3⟩ _=>⟨H2,h2,h1,q,hq,h3⟩
  rw[hM]
  refine zov Tryz.func49 ziB fun imm0 w0=>?_
  simp (disch:=omega) [zz,kA,zY,ho',hp,hki,hb']
  (repeat with_reducible refine om ?_)
  simp (disch:=omega) [zz,hMe,hre,jN,Tryz.f49,ho']
  exact HSub.refl _
 have hv:yN k b=(0,ZS (zaM k b)):=by unfold yN;rw[if_neg ho,if_neg (by simp[hp]),if_neg hbig];rfl
 rw[hv]
 obtain⟨hgv,hgg,n,hgn⟩:=hgo ho' hp hbig
 obtain⟨r',hr'⟩:∃r',r'=(J7 k b.run).2:=⟨_,rfl⟩
 have hgiv:=zp2 q.R hq.run hg.good k (by omega)
 rw[hgv,<-hr']at hgiv
 refine q7.nodup fun hnd=>?_
 obtain⟨rk,hrk⟩:∃rk,rk=QU k:=⟨_,rfl⟩
 obtain⟨b1,hb1⟩:∃b1,b1=zaM k b:=⟨_,rfl⟩
 have hb1':b1={ b with reads:=b.reads++[rk],run:=r' }:=by rw[hb1,hrk,hr'];rfl
 rw[<-hb1]at hgg hgn |-
 refine q7.sub (R:=fun y H'=>y=.av (.int .i64) (.i .i64 0)/\∃H2,Ab.HSub H2 H'/\KP B (ZS b1) H2) ?_ fun y H' ⟨h1,H2,h2,h3⟩ _=>⟨H2,h2,h1,h3⟩
 obtain⟨N,hN⟩:∃N:q8,N=(q.W,wrO b.wrote)::(xG q.bo q.bi q.ba b.outs q.ins q.ask):=⟨_,rfl⟩
 have hNe:N.er=N:=by rw[hN,q8.er_cons,W3,pH]
 have hp1:(q.core B b).Perm ((B,zY q.R b.outs (jN q.bo q.bi q.ba) q.W q.rd b.asks b.over b.why)::(q.RD++(q.HR++N))):=by
  refine List.perm_iff_count.2 fun a=>?_
  simp only[KS.core,KS.M,hN,List.count_append,List.count_cons];omega
 have hnd1:(q8.keys ((B,zY q.R b.outs (jN q.bo q.bi q.ba) q.W q.rd b.asks b.over b.why)::(q.RD++(q.HR++N)))).Nodup:=(hp1.map Prod.fst).nodup_iff.1 hnd
  -- how it ends
 have fin:∀(rd':AV) (RD' HR':q8),zaS (b.reads++[rk]) rd' RD'->z8 q.R r' HR'->∃H2,KP B b1 H2/\((B,zY q.R b.outs (jN q.bo q.bi q.ba) q.W rd' b.asks b.over b.why)::(RD'++(HR'++N))).Perm H2:=by
  intro rd' RD' HR' h1 h2
  refine⟨({ q with rd:=rd',RD:=RD',HR:=HR' }:KS).core B b1,⟨{ q with rd:=rd',RD:=RD',HR:=HR' },⟨by rw[hb1'];exact h2,by rw[hb1'];exact h1,by rw[hb1'];exact hq.may,by rw[hb1'];exact hq.mb⟩,rfl⟩,?_⟩
  refine List.perm_iff_count.2 fun a=>?_
  rw[hb1']
  simp only[KS.core,KS.M,hN,List.count_append,List.count_cons];omega
 refine q7.perm hp1 ?_
 clear hnd hp1
 have hsum:=fun(h:k.is=true)=>zo6 k.data (Nat.le_trans (Nat.le_of_not_lt fun e=>hbig ⟨h,e⟩) (by decide))
 have hrde:q.rd.er=q.rd:=by
  rcases hq.reads with⟨_,e,_⟩|⟨T,cap,j,_,e,_⟩<;>rw[e]<;>rfl
 have hme:(jN q.bo q.bi q.ba).erk=jN q.bo q.bi q.ba:=rfl
 have hzd:AV.agg (List.replicate 32 (.i .u8 0))=W0 zes:=by simp[W0,zes]
 cases hki:k.is with
 | true =>
  have hb':¬(65536:Int)<k.data.length:=by
   intro h;exact hbig ⟨hki,by omega⟩
  have hrk2:rk=⟨k.path,true,sha k.data⟩:=by rw[hrk];simp[QU,hki]
  have hrkE:zG rk=AV.agg [.s b.asks,.b true,W0 (sha k.data)]:=by rw[hrk2,hp];rfl
  rcases hq.reads with⟨hr0,hrd,hRD⟩|⟨T,cap,j,hj,hrd,hcap,hRD⟩
  ·rw[hRD,hrd]at hnd1 |-
   simp[q8.keys]at hnd1
   refine zov Tryz.func49 ziB fun imm0 w0=>?_
   simp (disch:=omega) [zz,kA,zY,ho',hp,hki,hb']
   (repeat with_reducible refine om ?_)
   refine qG (hsum hki) rfl rfl (by simp) (by simp[qM,TV.er,AV.er,AV.ers,zgF]) ?_
   simp (disch:=omega) [zz,-List.reduceReplicate]
   refine kI.ofK [0,1,2,3,4,5,6,7,8,9,10] [0] [] (by kernel_rfl) ?_
   simp (disch:=omega) [zz,-List.reduceReplicate]
   (repeat with_reducible refine om ?_)
   intro bT cap' c1 c2 c3 c4
   have c1':¬B=bT:=fun e=>c1 e.symm
   (simp (maxSteps:=2000000) (disch:=first|omega|assumption) [zz,-List.reduceReplicate,c1,c1'])
   (repeat with_reducible refine om ?_)
   have hrow:[(bT,wJ cap' (b.reads++[rk]) (List.replicate (cap'-1) (.agg [.s [],.b false,.agg (List.replicate 32 (.i .u8 0))])))]=[(bT,.var (.arr cap' 53) (.agg (AV.agg [.s b.asks,.b true,W0 (sha k.data)]::List.replicate (cap'-1) (.agg [.s [],.b false,.agg (List.replicate 32 (.i .u8 0))]))))]:=by rw[hr0];simp[wJ,hrkE]
   refine kI.ofK [0,1,2,3,4,5,6] [] [] (by kernel_rfl) ?_
   (simp (maxSteps:=2000000) (disch:=first|omega|assumption) [zz,-List.reduceReplicate,c1,c1'])
   (repeat with_reducible refine om ?_)
   refine qD (R:=fun y H'=>y=.av (.int .i64) (.i .i64 0)/\z8 q.R r' H') q.HR ((B,zY q.R b.outs (jN q.bo q.bi q.ba) q.W (.msl bT 53 0 1 cap') b.asks b.over b.why)::([(bT,wJ cap' (b.reads++[rk]) (List.replicate (cap'-1) (.agg [.s [],.b false,.agg (List.replicate 32 (.i .u8 0))])))]++N)) ?_ rfl (by simp[qI]) (by simp) ?_ ?_
   ·rw[hrow]
    refine List.perm_iff_count.2 fun a=>?_
    simp only[zY,ho',List.count_append,List.count_cons,List.count_nil];omega
   ·rw[hHe]
    have hkf:k=⟨b.asks,k.is,k.data⟩:=by rw[<-hp]
    rw[hki]at hkf
    rw[hkf]at hgiv
    simpa[TV.er,AV.er,AV.ers,kA]using hgiv
   rintro y HR' ⟨rfl,hrun'⟩ _
   obtain⟨H2,hH2,hperm⟩:=fin (.msl bT 53 0 1 cap') ([(bT,wJ cap' (b.reads++[rk]) (List.replicate (cap'-1) (.agg [.s [],.b false,.agg (List.replicate 32 (.i .u8 0))])))]) HR' (by rw[hr0];exact .inr ⟨bT,cap',_,JK.rep rfl _,rfl,by simp;omega,rfl⟩) hrun'
   have hH2e:H2.er=H2:=by
    obtain⟨q2,hq2,rfl⟩:=hH2
    exact(hq2.er B).1
   have hgo2:=xQ B hH2 hgg n hgn
   refine⟨H2,HSub.of_perm ?_,?_⟩
   ·refine List.Perm.trans ?_ hperm
    refine List.perm_iff_count.2 fun a=>?_
    simp only[List.count_append,List.count_cons,List.count_nil];omega
   simp (disch:=omega) [zz,-List.reduceReplicate]
   refine qD (R:=fun y H'=>y=.tup []/\KP B (ZS b1) H') H2 [] (by simp) rfl (by simp[qI]) (by simp) ?_ ?_
   ·rw[hH2e]
    simpa[TV.er,AV.er]using hgo2
   rintro y H' ⟨rfl,hfin⟩ _
   refine⟨H',by simpa using HSub.refl _,?_⟩
   have hfe:H'.er=H':=by
    obtain⟨q2,hq2,rfl⟩:=hfin
    exact(hq2.er B).1
   simp (disch:=omega) [zz,-List.reduceReplicate,hfe,Tryz.f49]
   exact⟨H',HSub.refl _,hfin⟩
  ·rw[hRD,hrd]at hnd1 |-
   simp[q8.keys]at hnd1
   obtain⟨⟨nT,_⟩,_⟩:=hnd1
   have nT':¬T=B:=fun e=>nT e.symm
   have htk:(b.reads.map zG++j).take b.reads.length=b.reads.map zG:=by rw[List.take_append_of_le_length (by simp)];exact List.take_of_length_le (by simp)
   have hdr:(b.reads.map zG++j).drop (b.reads.length+1)=j.tail:=by
    rw[List.drop_append,List.drop_of_length_le (by simp)];simp
   refine zov Tryz.func49 ziB fun imm0 w0=>?_
   simp (disch:=omega) [zz,-List.reduceReplicate,kA,zY,ho',hp,hki,hb']
   (repeat with_reducible refine om ?_)
   refine qG (hsum hki) rfl rfl (by simp) (by simp[qM,TV.er,AV.er,AV.ers,zgF]) ?_
   simp (disch:=omega) [zz,-List.reduceReplicate]
   refine kI.ofK [0,1,2,3,4,5,6,7,8,9,10] [0] [] (by kernel_rfl) ?_
   simp (disch:=omega) [zz,-List.reduceReplicate,nT,nT',wJ]
   (repeat with_reducible refine om ?_)
   refine⟨fun hroom=>?_,fun hgrow=>?_⟩
   ·(repeat with_reducible refine om ?_)
    have hrow:[(T,wJ cap (b.reads++[rk]) j.tail)]=[(T,.var (.arr cap 53) (.agg ((b.reads.map zG++j).take b.reads.length++AV.agg [.s b.asks,.b true,W0 (sha k.data)]::(b.reads.map zG++j).drop (b.reads.length+1))))]:=by rw[htk,hdr];simp[wJ,hrkE]
    refine kI.ofK [0,1,2,3,4,5,6] [] [] (by kernel_rfl) ?_
    simp (disch:=omega) [zz,-List.reduceReplicate,nT,nT']
    (repeat with_reducible refine om ?_)
    refine qD (R:=fun y H'=>y=.av (.int .i64) (.i .i64 0)/\z8 q.R r' H') q.HR ((B,zY q.R b.outs (jN q.bo q.bi q.ba) q.W (.msl T 53 0 (b.reads.length+1) cap) b.asks b.over b.why)::([(T,wJ cap (b.reads++[rk]) j.tail)]++N)) ?_ rfl (by simp[qI]) (by simp) ?_ ?_
    ·rw[hrow]
     refine List.perm_iff_count.2 fun a=>?_
     simp only[zY,ho',List.count_append,List.count_cons,List.count_nil];omega
    ·rw[hHe]
     have hkf:k=⟨b.asks,k.is,k.data⟩:=by rw[<-hp]
     rw[hki]at hkf
     rw[hkf]at hgiv
     simpa[TV.er,AV.er,AV.ers,kA]using hgiv
    rintro y HR' ⟨rfl,hrun'⟩ _
    obtain⟨H2,hH2,hperm⟩:=fin (.msl T 53 0 (b.reads.length+1) cap) ([(T,wJ cap (b.reads++[rk]) j.tail)]) HR' (by exact .inr ⟨T,cap,j.tail,hj.tail,by simp,by simp;omega,rfl⟩) hrun'
    have hH2e:H2.er=H2:=by
     obtain⟨q2,hq2,rfl⟩:=hH2
     exact(hq2.er B).1
    have hgo2:=xQ B hH2 hgg n hgn
    refine⟨H2,HSub.of_perm ?_,?_⟩
    ·refine List.Perm.trans ?_ hperm
     refine List.perm_iff_count.2 fun a=>?_
     simp only[List.count_append,List.count_cons,List.count_nil];omega
    (simp (maxSteps:=2000000) (disch:=first|omega|assumption) [zz,-List.reduceReplicate])
    refine qD (R:=fun y H'=>y=.tup []/\KP B (ZS b1) H') H2 [] (by simp) rfl (by simp[qI]) (by simp) ?_ ?_
    ·rw[hH2e]
     simpa[TV.er,AV.er]using hgo2
    rintro y H' ⟨rfl,hfin⟩ _
    refine⟨H',by simpa using HSub.refl _,?_⟩
    have hfe:H'.er=H':=by
     obtain⟨q2,hq2,rfl⟩:=hfin
     exact(hq2.er B).1
    (simp (maxSteps:=2000000) (disch:=first|omega|assumption) [zz,-List.reduceReplicate,hfe,Tryz.f49])
    exact⟨H',HSub.refl _,hfin⟩
   ·intro bT cap2 c1 c2 c3 c4 c5
    have c1':¬B=bT:=fun e=>c1 e.symm
    (repeat with_reducible refine om ?_)
    (simp (maxSteps:=2000000) (disch:=first|omega|assumption) [zz,-List.reduceReplicate,nT,nT',c1,c1'])
    (repeat with_reducible refine om ?_)
    have hrow:[(bT,wJ cap2 (b.reads++[rk]) (List.replicate (cap2-(b.reads.length+1)) (.agg [.s [],.b false,.agg (List.replicate 32 (.i .u8 0))])))]=[(bT,.var (.arr cap2 53) (.agg ((b.reads.map zG++j).take b.reads.length++AV.agg [.s b.asks,.b true,W0 (sha k.data)]::List.replicate (cap2-(b.reads.length+1)) (.agg [.s [],.b false,.agg (List.replicate 32 (.i .u8 0))]))))]:=by rw[htk];simp[wJ,hrkE]
    refine kI.ofK [0,1,2,3,4,5,6] [] [] (by kernel_rfl) ?_
    (simp (maxSteps:=2000000) (disch:=first|omega|assumption) [zz,-List.reduceReplicate,nT,nT',c1,c1'])
    (repeat with_reducible refine om ?_)
    refine qD (R:=fun y H'=>y=.av (.int .i64) (.i .i64 0)/\z8 q.R r' H') q.HR ((B,zY q.R b.outs (jN q.bo q.bi q.ba) q.W (.msl bT 53 0 (b.reads.length+1) cap2) b.asks b.over b.why)::([(bT,wJ cap2 (b.reads++[rk]) (List.replicate (cap2-(b.reads.length+1)) (.agg [.s [],.b false,.agg (List.replicate 32 (.i .u8 0))])))]++((T,.var (.arr cap 53) (.agg (b.reads.map zG++j)))::N))) ?_ rfl (by simp[qI]) (by simp) ?_ ?_
    ·rw[hrow]
     refine List.perm_iff_count.2 fun a=>?_
     simp only[zY,ho',List.count_append,List.count_cons,List.count_nil];omega
    ·rw[hHe]
     have hkf:k=⟨b.asks,k.is,k.data⟩:=by rw[<-hp]
     rw[hki]at hkf
     rw[hkf]at hgiv
     simpa[TV.er,AV.er,AV.ers,kA]using hgiv
    rintro y HR' ⟨rfl,hrun'⟩ _
    obtain⟨H2,hH2,hperm⟩:=fin (.msl bT 53 0 (b.reads.length+1) cap2) ([(bT,wJ cap2 (b.reads++[rk]) (List.replicate (cap2-(b.reads.length+1)) (.agg [.s [],.b false,.agg (List.replicate 32 (.i .u8 0))])))]) HR' (by exact .inr ⟨bT,cap2,_,JK.rep rfl _,by simp,by simp;omega,rfl⟩) hrun'
    have hH2e:H2.er=H2:=by
     obtain⟨q2,hq2,rfl⟩:=hH2
     exact(hq2.er B).1
    have hgo2:=xQ B hH2 hgg n hgn
    refine⟨H2,⟨(T,.var (.arr cap 53) (.agg (b.reads.map zG++j)))::H2,?_,(List.Sublist.refl _).cons _⟩,?_⟩
    ·refine List.Perm.trans ?_ (hperm.cons _)
     refine List.perm_iff_count.2 fun a=>?_
     simp only[List.count_append,List.count_cons,List.count_nil];omega
    simp (disch:=omega) [zz]
    refine qD (R:=fun y H'=>y=.tup []/\KP B (ZS b1) H') H2 [] (by simp) rfl (by simp[qI]) (by simp) ?_ ?_
    ·rw[hH2e]
     simpa[TV.er,AV.er]using hgo2
    rintro y H' ⟨rfl,hfin⟩ _
    refine⟨H',by simpa using HSub.refl _,?_⟩
    have hfe:H'.er=H':=by
     obtain⟨q2,hq2,rfl⟩:=hfin
     exact(hq2.er B).1
    simp (disch:=omega) [zz,hfe,Tryz.f49]
    exact⟨H',HSub.refl _,hfin⟩
 | false =>
  have hrk2:rk=⟨k.path,false,zes⟩:=by rw[hrk];simp[QU,hki]
  have hrkE:zG rk=AV.agg [.s b.asks,.b false,.agg (List.replicate 32 (.i .u8 0))]:=by rw[hrk2,hzd,hp];rfl
  rcases hq.reads with⟨hr0,hrd,hRD⟩|⟨T,cap,j,hj,hrd,hcap,hRD⟩
  ·rw[hRD,hrd]at hnd1 |-
   simp[q8.keys]at hnd1
   refine zov Tryz.func49 ziB fun imm0 w0=>?_
   simp (disch:=omega) [zz,-List.reduceReplicate,kA,zY,ho',hp,hki,]
   (repeat with_reducible refine om ?_)
   refine kI.ofK [0,1,2,3,4,5,6,7,8,9,10] [0] [] (by kernel_rfl) ?_
   simp (disch:=omega) [zz,-List.reduceReplicate]
   (repeat with_reducible refine om ?_)
   intro bT cap' c1 c2 c3 c4
   have c1':¬B=bT:=fun e=>c1 e.symm
   (simp (maxSteps:=2000000) (disch:=first|omega|assumption) [zz,-List.reduceReplicate,c1,c1'])
   (repeat with_reducible refine om ?_)
   have hrow:[(bT,wJ cap' (b.reads++[rk]) (List.replicate (cap'-1) (.agg [.s [],.b false,.agg (List.replicate 32 (.i .u8 0))])))]=[(bT,.var (.arr cap' 53) (.agg (AV.agg [.s b.asks,.b false,.agg (List.replicate 32 (.i .u8 0))]::List.replicate (cap'-1) (.agg [.s [],.b false,.agg (List.replicate 32 (.i .u8 0))]))))]:=by rw[hr0];simp[wJ,hrkE]
   refine kI.ofK [0,1,2,3,4,5,6] [] [] (by kernel_rfl) ?_
   (simp (maxSteps:=2000000) (disch:=first|omega|assumption) [zz,-List.reduceReplicate,c1,c1'])
   (repeat with_reducible refine om ?_)
   refine qD (R:=fun y H'=>y=.av (.int .i64) (.i .i64 0)/\z8 q.R r' H') q.HR ((B,zY q.R b.outs (jN q.bo q.bi q.ba) q.W (.msl bT 53 0 1 cap') b.asks b.over b.why)::([(bT,wJ cap' (b.reads++[rk]) (List.replicate (cap'-1) (.agg [.s [],.b false,.agg (List.replicate 32 (.i .u8 0))])))]++N)) ?_ rfl (by simp[qI]) (by simp) ?_ ?_
   ·rw[hrow]
    refine List.perm_iff_count.2 fun a=>?_
    simp only[zY,ho',List.count_append,List.count_cons,List.count_nil];omega
   ·rw[hHe]
    have hkf:k=⟨b.asks,k.is,k.data⟩:=by rw[<-hp]
    rw[hki]at hkf
    rw[hkf]at hgiv
    simpa[TV.er,AV.er,AV.ers,kA]using hgiv
   rintro y HR' ⟨rfl,hrun'⟩ _
   obtain⟨H2,hH2,hperm⟩:=fin (.msl bT 53 0 1 cap') ([(bT,wJ cap' (b.reads++[rk]) (List.replicate (cap'-1) (.agg [.s [],.b false,.agg (List.replicate 32 (.i .u8 0))])))]) HR' (by rw[hr0];exact .inr ⟨bT,cap',_,JK.rep rfl _,rfl,by simp;omega,rfl⟩) hrun'
   have hH2e:H2.er=H2:=by
    obtain⟨q2,hq2,rfl⟩:=hH2
    exact(hq2.er B).1
   have hgo2:=xQ B hH2 hgg n hgn
   refine⟨H2,HSub.of_perm ?_,?_⟩
   ·refine List.Perm.trans ?_ hperm
    refine List.perm_iff_count.2 fun a=>?_
    simp only[List.count_append,List.count_cons,List.count_nil];omega
   simp (disch:=omega) [zz]
   refine qD (R:=fun y H'=>y=.tup []/\KP B (ZS b1) H') H2 [] (by simp) rfl (by simp[qI]) (by simp) ?_ ?_
   ·rw[hH2e]
    simpa[TV.er,AV.er]using hgo2
   rintro y H' ⟨rfl,hfin⟩ _
   refine⟨H',by simpa using HSub.refl _,?_⟩
   have hfe:H'.er=H':=by
    obtain⟨q2,hq2,rfl⟩:=hfin
    exact(hq2.er B).1
   simp (disch:=omega) [zz,-List.reduceReplicate,hfe,Tryz.f49]
   exact⟨H',HSub.refl _,hfin⟩
  ·rw[hRD,hrd]at hnd1 |-
   simp[q8.keys]at hnd1
   obtain⟨⟨nT,_⟩,_⟩:=hnd1
   have nT':¬T=B:=fun e=>nT e.symm
   have htk:(b.reads.map zG++j).take b.reads.length=b.reads.map zG:=by rw[List.take_append_of_le_length (by simp)];exact List.take_of_length_le (by simp)
   have hdr:(b.reads.map zG++j).drop (b.reads.length+1)=j.tail:=by
    rw[List.drop_append,List.drop_of_length_le (by simp)];simp
   refine zov Tryz.func49 ziB fun imm0 w0=>?_
   simp (disch:=omega) [zz,-List.reduceReplicate,kA,zY,ho',hp,hki,]
   (repeat with_reducible refine om ?_)
   refine kI.ofK [0,1,2,3,4,5,6,7,8,9,10] [0] [] (by kernel_rfl) ?_
   (simp (maxSteps:=2000000) (disch:=first|omega|assumption) [zz,-List.reduceReplicate,nT,nT',wJ])
   (repeat with_reducible refine om ?_)
   refine⟨fun hroom=>?_,fun hgrow=>?_⟩
   ·(repeat with_reducible refine om ?_)
    have hrow:[(T,wJ cap (b.reads++[rk]) j.tail)]=[(T,.var (.arr cap 53) (.agg ((b.reads.map zG++j).take b.reads.length++AV.agg [.s b.asks,.b false,.agg (List.replicate 32 (.i .u8 0))]::(b.reads.map zG++j).drop (b.reads.length+1))))]:=by rw[htk,hdr];simp[wJ,hrkE]
    refine kI.ofK [0,1,2,3,4,5,6] [] [] (by kernel_rfl) ?_
    (simp (maxSteps:=2000000) (disch:=first|omega|assumption) [zz,-List.reduceReplicate,nT,nT'])
    (repeat with_reducible refine om ?_)
    refine qD (R:=fun y H'=>y=.av (.int .i64) (.i .i64 0)/\z8 q.R r' H') q.HR ((B,zY q.R b.outs (jN q.bo q.bi q.ba) q.W (.msl T 53 0 (b.reads.length+1) cap) b.asks b.over b.why)::([(T,wJ cap (b.reads++[rk]) j.tail)]++N)) ?_ rfl (by simp[qI]) (by simp) ?_ ?_
    ·rw[hrow]
     refine List.perm_iff_count.2 fun a=>?_
     simp only[zY,ho',List.count_append,List.count_cons,List.count_nil];omega
    ·rw[hHe]
     have hkf:k=⟨b.asks,k.is,k.data⟩:=by rw[<-hp]
     rw[hki]at hkf
     rw[hkf]at hgiv
     simpa[TV.er,AV.er,AV.ers,kA]using hgiv
    rintro y HR' ⟨rfl,hrun'⟩ _
    obtain⟨H2,hH2,hperm⟩:=fin (.msl T 53 0 (b.reads.length+1) cap) ([(T,wJ cap (b.reads++[rk]) j.tail)]) HR' (by exact .inr ⟨T,cap,j.tail,hj.tail,by simp,by simp;omega,rfl⟩) hrun'
    have hH2e:H2.er=H2:=by
     obtain⟨q2,hq2,rfl⟩:=hH2
     exact(hq2.er B).1
    have hgo2:=xQ B hH2 hgg n hgn
    refine⟨H2,HSub.of_perm ?_,?_⟩
    ·refine List.Perm.trans ?_ hperm
     refine List.perm_iff_count.2 fun a=>?_
     simp only[List.count_append,List.count_cons,List.count_nil];omega
    simp (disch:=omega) [zz,-List.reduceReplicate]
    refine qD (R:=fun y H'=>y=.tup []/\KP B (ZS b1) H') H2 [] (by simp) rfl (by simp[qI]) (by simp) ?_ ?_
    ·rw[hH2e]
     simpa[TV.er,AV.er]using hgo2
    rintro y H' ⟨rfl,hfin⟩ _
    refine⟨H',by simpa using HSub.refl _,?_⟩
    have hfe:H'.er=H':=by
     obtain⟨q2,hq2,rfl⟩:=hfin
     exact(hq2.er B).1
    simp (disch:=omega) [zz,-List.reduceReplicate,hfe,Tryz.f49]
    exact⟨H',HSub.refl _,hfin⟩
   ·intro bT cap2 c1 c2 c3 c4 c5
    have c1':¬B=bT:=fun e=>c1 e.symm
    (repeat with_reducible refine om ?_)
    (simp (maxSteps:=2000000) (disch:=first|omega|assumption) [zz,-List.reduceReplicate,nT,nT',c1,c1'])
    (repeat with_reducible refine om ?_)
    have hrow:[(bT,wJ cap2 (b.reads++[rk]) (List.replicate (cap2-(b.reads.length+1)) (.agg [.s [],.b false,.agg (List.replicate 32 (.i .u8 0))])))]=[(bT,.var (.arr cap2 53) (.agg ((b.reads.map zG++j).take b.reads.length++AV.agg [.s b.asks,.b false,.agg (List.replicate 32 (.i .u8 0))]::List.replicate (cap2-(b.reads.length+1)) (.agg [.s [],.b false,.agg (List.replicate 32 (.i .u8 0))]))))]:=by rw[htk];simp[wJ,hrkE]
    refine kI.ofK [0,1,2,3,4,5,6] [] [] (by kernel_rfl) ?_
    (simp (maxSteps:=2000000) (disch:=first|omega|assumption) [zz,-List.reduceReplicate,nT,nT',c1,c1'])
    (repeat with_reducible refine om ?_)
    refine qD (R:=fun y H'=>y=.av (.int .i64) (.i .i64 0)/\z8 q.R r' H') q.HR ((B,zY q.R b.outs (jN q.bo q.bi q.ba) q.W (.msl bT 53 0 (b.reads.length+1) cap2) b.asks b.over b.why)::([(bT,wJ cap2 (b.reads++[rk]) (List.replicate (cap2-(b.reads.length+1)) (.agg [.s [],.b false,.agg (List.replicate 32 (.i .u8 0))])))]++((T,.var (.arr cap 53) (.agg (b.reads.map zG++j)))::N))) ?_ rfl (by simp[qI]) (by simp) ?_ ?_
    ·rw[hrow]
     refine List.perm_iff_count.2 fun a=>?_
     simp only[zY,ho',List.count_append,List.count_cons,List.count_nil];omega
    ·rw[hHe]
     have hkf:k=⟨b.asks,k.is,k.data⟩:=by rw[<-hp]
     rw[hki]at hkf
     rw[hkf]at hgiv
     simpa[TV.er,AV.er,AV.ers,kA]using hgiv
    rintro y HR' ⟨rfl,hrun'⟩ _
    obtain⟨H2,hH2,hperm⟩:=fin (.msl bT 53 0 (b.reads.length+1) cap2) ([(bT,wJ cap2 (b.reads++[rk]) (List.replicate (cap2-(b.reads.length+1)) (.agg [.s [],.b false,.agg (List.replicate 32 (.i .u8 0))])))]) HR' (by exact .inr ⟨bT,cap2,_,JK.rep rfl _,by simp,by simp;omega,rfl⟩) hrun'
    have hH2e:H2.er=H2:=by
     obtain⟨q2,hq2,rfl⟩:=hH2
     exact(hq2.er B).1
    have hgo2:=xQ B hH2 hgg n hgn
    refine⟨H2,⟨(T,.var (.arr cap 53) (.agg (b.reads.map zG++j)))::H2,?_,(List.Sublist.refl _).cons _⟩,?_⟩
    ·refine List.Perm.trans ?_ (hperm.cons _)
     refine List.perm_iff_count.2 fun a=>?_
     simp only[List.count_append,List.count_cons,List.count_nil];omega
    simp (disch:=omega) [zz]
    refine qD (R:=fun y H'=>y=.tup []/\KP B (ZS b1) H') H2 [] (by simp) rfl (by simp[qI]) (by simp) ?_ ?_
    ·rw[hH2e]
     simpa[TV.er,AV.er]using hgo2
    rintro y H' ⟨rfl,hfin⟩ _
    refine⟨H',by simpa using HSub.refl _,?_⟩
    have hfe:H'.er=H':=by
     obtain⟨q2,hq2,rfl⟩:=hfin
     exact(hq2.er B).1
    simp (disch:=omega) [zz,hfe,Tryz.f49]
    exact⟨H',HSub.refl _,hfin⟩
end Go.Proofs.YtfkcpballfhddaaGreatDoor
end
section
set_option maxRecDepth 100000
namespace Go.Proofs.YtfkcpballfhddaaGreatDoor
open Go Go.Ab
open Classical
variable [Sel] [SelPow] [SelMax]
structure YO (env:List (Txt × Txt)) (cs:List CmdV) (outs:List Txt) (may:Txt->Bool) (kn:List KnV) (b:j9):Prop where
 g:ZN b
 s:∃wr,uQ env (zeK cs) kn outs may wr b
section
variable {env:List (Txt × Txt)} {cs:List CmdV} {outs:List Txt} {may:Txt->Bool} {kn:List KnV} {b:j9}
theorem YO.rl (h:YO env cs outs may kn b):b.reads.length<=500:=by
 obtain⟨wr,hs⟩:=h.s
 rw[hs.reads,List.length_map];exact hs.len
theorem YO.wl (h:YO env cs outs may kn b) (ho:outs.length<=1000000):b.wrote.length<=1000000:=by
 obtain⟨wr,hs⟩:=h.s
 have h1:(wr.map (·.path)).length<=outs.length:=List.Nodup.length_le_of_subset hs.nod fun p hp=>by
  obtain⟨w,hw,rfl⟩:=List.mem_map.1 hp
  exact hs.own w hw
 rw[hs.wrote,List.length_map]
 simp only[List.length_map]at h1
 omega
theorem YO.can (h:YO env cs outs may kn b) (k:KnV) (ho:b.over=false) (hp:k.path=b.asks) (hd:k.is=true->k.data.length<=65536):ziK k b:=by
 obtain⟨wr,hs⟩:=h.s
 obtain⟨h1,h2⟩:=hs.tell ho k hp hd
 exact⟨h2,⟨h.g.good.give k (fun h=>by have:=hd h;omega),h.g.ask.give h.g.good.inv k,h1.at_.ov,h1.no2⟩,⟨_,(PL h1).1⟩⟩
theorem YO.give (h:YO env cs outs may kn b) (k:KnV) (ho:b.over=false) (hp:k.path=b.asks) (hd:k.is=true->k.data.length<=65536):(yN k b).1=0/\YO env cs outs may (kn++[k]) (yN k b).2:=by
 have hc:=h.can k ho hp hd
 obtain⟨wr,hs⟩:=h.s
 obtain⟨h1,m,h2⟩:=hs.give ho k hp hd
 refine⟨h1,?_,_,h2⟩
 have hv:(yN k b).2=ZS (zaM k b):=by unfold yN;rw[if_neg (by rw[ho];decide),if_neg (by simp[hp]),if_neg (fun h=>by have:=hd h.1;omega)];rfl
 obtain⟨n,hn⟩:=hc.go
 rw[hv]
 exact ZN.goN n hn hc.good
end
theorem zbc {t:Txt} {cs:List CmdV} (h:jB t=.ok cs) {env:List (Txt × Txt)} (h1:env.length<=1000000000) (h2:∀x∈env,x.2.length<=1000000000000000) (outs:List Txt) (may:Txt->Bool):YO env cs outs may [] (U0 env outs may cs):=by
 have hl:=ZC h
 have hgo:=(PL (zho env outs may cs hl)).1
 exact⟨ZN.goN _ hgo (DG h h1 h2 outs may),zh9 env outs may cs hl⟩
theorem GP {b:j9} (h:b.over=true):(JH b).1.reads=b.reads:=by
 unfold JH
 rw[if_neg (by rw[h];decide)]
 split<;>rfl
theorem YO.askl {env:List (Txt × Txt)} {cs:List CmdV} {outs:List Txt} {may:Txt->Bool} {kn:List KnV} {b:j9} (h:YO env cs outs may kn b) (ho:b.over=false):b.asks.length<=1040:=by
 obtain⟨wr,hs⟩:=h.s
 cases hs.e with
 | waits d hs' h1 hm hw ha ha2 h3 h4=>rw[ha2];exact zfb (h.g.ask.ak hw)
 | read d _ _ _ h3 _=>rw[h3]at ho;cases ho
 | ended d _ _ _ h3 _=>rw[h3]at ho;cases ho
 | short d _ _ _ h3 _=>rw[h3]at ho;cases ho
 | failed d _ _ _ h3 _=>rw[h3]at ho;cases ho
 | wrote d _ _ h3 _=>rw[h3]at ho;cases ho
end Go.Proofs.YtfkcpballfhddaaGreatDoor
end
section
set_option maxRecDepth 100000
namespace Go.Proofs.YtfkcpballfhddaaGreatDoor
open Go Go.Ab
open Classical
variable [Sel] [SelPow] [SelMax]
def zqY:Txt:=[114,101,97,100,32,97,10,119,114,105,116,101,32,111,117,116,47,111,10]
def zjP:Txt:=[111,117,116,47,111]
def zqH:wD:=⟨[],[],zqY,[],[],[[42]],[zjP]⟩
def alK:KnV:=⟨[97],true,[120]⟩
structure ztK (cs:List CmdV) (b b':j9):Prop where
 k0:YO [] cs [zjP] (Z8 zqH) [] b
 k1:YO [] cs [zjP] (Z8 zqH) [alK] b'
 give:yN alK b=(0,b')
 asks:b.asks=[97]
 open_:b.over=false
 out:JH b'=(⟨1,0,[⟨zjP,[120]⟩],[⟨[97],true,sha [120]⟩]⟩,true)
end Go.Proofs.YtfkcpballfhddaaGreatDoor
end
section
set_option maxRecDepth 100000
namespace Go.Proofs.YtfkcpballfhddaaGreatDoor
open Go Go.Ab
open Classical
variable [Sel] [SelPow] [SelMax]
end Go.Proofs.YtfkcpballfhddaaGreatDoor
end
section
set_option maxRecDepth 100000
namespace Go.Proofs.YtfkcpballfhddaaGreatDoor
open Go Go.Ab
open Classical
variable [Sel] [SelPow] [SelMax]
end Go.Proofs.YtfkcpballfhddaaGreatDoor
end
