/- The program's SHA-256: a block is taken. No condition. -/
import Derived.Test.YtdkieabmeiojjaaGreatDoorBR0ToS5
set_option linter.unusedSimpArgs false
set_option linter.unusedVariables false
set_option linter.unusedSectionVars false
set_option maxHeartbeats 64000000
set_option maxRecDepth 100000
namespace Go.Proofs.YtdkieabmeiojjaaGreatDoor
open Go Go.Ab
open Classical
section
variable [Sel]
abbrev zih:Cfg:=⟨fun _=>false,fun n=>n==112⟩
theorem zea {s R C:List UInt32} {i:Nat} {x y:UInt32} (hC:C=List.zipWith (·+·) s R) (hs:s.length=8) (hR:R.length=8) (hi:i<8) (hx:s[i]?=some x) (hy:R[i]?=some y) :
  ((C.take i++s.drop i).map kZ).set i (kZ (x+y))=(C.take (i+1)++s.drop (i+1)).map kZ:=by
 have hCl:C.length=8:=by rw[hC];simp[hs,hR]
 have hCi:C[i]?=some (x+y):=by rw[hC];simp[List.getElem?_zipWith,hx,hy]
 have hd:s.drop i=x::s.drop (i+1):=by
  rw[<-List.getElem_cons_drop (show i<s.length by omega)]
  rw[List.getElem?_eq_getElem (by omega)]at hx
  rw[Option.some.inj hx]
 rw[<-List.map_set,List.take_add_one,hCi,hd]
 simp[List.set_append_right,hCl,Nat.min_eq_left (Nat.le_of_lt hi)]
theorem znb (B:Nat) (s:List UInt32) (b:List UInt8) (hs:s.length=8) (hb:b.length=64) :
  q7 Tryz.prog 158 [.av .ptr (.ptr B (.arr 8 152) []),.av (.slice 5) (yB b)] [(B,.var (.arr 8 152) (.agg (s.map kZ)))] fun r H'=>r=.tup []/\H'=[(B,.var (.arr 8 152) (.agg ((jH s b).map kZ)))]:=by
 refine zov Tryz.func158 zih fun imm0 w0=>?_
 simp (disch:=omega) [zz,z6]
 (repeat with_reducible refine om ?_)
 refine zcd (G5) ?_;(simp (disch:=first|omega|assumption) [zz,z6])
 (repeat with_reducible refine om ?_)
 refine qO (zb5 b hb) rfl rfl (by simp) (by simp[qR,TV.er]) ?_
 simp (disch:=omega) [zz,z6]
 refine AT.loopV (α:=Nat) (fun k ver=>St.of [(0,.av .ptr (.ptr B (.arr 8 152) [])),(4,.loc 4 []),(5,.loc 5 []),(19,.av (.arr 64 152) (.agg ((Q4 b 64).map kZ))),(20,.av (.int .i64) (.i .i64 k))] [(4,(.arr 8 152,.agg ((rnd b s k).map kZ))),(5,(.arr 64 152,.agg (k64.map kZ)))] ver [(B,.var (.arr 8 152) (.agg (s.map kZ)))])
  (fun k=>k<=64) (fun k=>64-k) 0 ?_ ?_ ?_
 ·apply Le.of<;>simp[le9,rnd,z6]<;>try omega
 ·simp
 ·rintro k ver hk KL hN hE
  refine zrd zih ?_
  by_cases hlt:k<64
  ·have hlt':(k:Int)<64:=by omega
   obtain⟨v0,v1,v2,v3,v4,v5,v6,v7,hv⟩:=zjS (U8 (b:=b) hs k)
   obtain⟨kk,hkk⟩:∃x,k64[k]?=some x:=⟨_,List.getElem?_eq_getElem (by simp[k64];omega)⟩
   obtain⟨ww,hww⟩:∃x,(Q4 b 64)[k]?=some x:=⟨_,List.getElem?_eq_getElem (by simp;omega)⟩
   have hR:rnd b s (k+1)=p5 [v0,v1,v2,v3,v4,v5,v6,v7] kk ww:=by rw[rnd,hv,hkk,hww];rfl
   have hkl:k64.length=64:=rfl
   have hwl:=YZ b 64
   generalize k64=KK at *
   generalize Q4 b 64=W at *
   have gk:∀h:k<KK.length,KK[k]=kk:=fun h=>by rw[List.getElem?_eq_getElem h]at hkk;simpa using hkk
   have gw:∀h:k<W.length,W[k]=ww:=fun h=>by rw[List.getElem?_eq_getElem h]at hww;simpa using hww
   simp (disch:=omega) [zz,hlt',hv,gw,z6]
   (repeat with_reducible refine om ?_)
   refine zcd (kI v4 6 (by decide) (by decide)) ?_;(simp (disch:=first|omega|assumption) [zz,vV,wor,gQ,PX,PU,UO,-BitVec.toNat_or,-BitVec.toNat_xor,-BitVec.toNat_and])
   refine zcd (kI v4 11 (by decide) (by decide)) ?_;(simp (disch:=first|omega|assumption) [zz,vV,wor,gQ,PX,PU,UO,-BitVec.toNat_or,-BitVec.toNat_xor,-BitVec.toNat_and])
   refine zcd (kI v4 25 (by decide) (by decide)) ?_;(simp (disch:=first|omega|assumption) [zz,vV,wor,gQ,PX,PU,UO,-BitVec.toNat_or,-BitVec.toNat_xor,-BitVec.toNat_and,gk,gw])
   (repeat with_reducible refine om ?_)
   refine zcd (kI v0 2 (by decide) (by decide)) ?_;(simp (disch:=first|omega|assumption) [zz,vV,wor,gQ,PX,PU,UO,-BitVec.toNat_or,-BitVec.toNat_xor,-BitVec.toNat_and])
   refine zcd (kI v0 13 (by decide) (by decide)) ?_;(simp (disch:=first|omega|assumption) [zz,vV,wor,gQ,PX,PU,UO,-BitVec.toNat_or,-BitVec.toNat_xor,-BitVec.toNat_and])
   refine zcd (kI v0 22 (by decide) (by decide)) ?_;(simp (disch:=first|omega|assumption) [zz,vV,wor,gQ,PX,PU,UO,-BitVec.toNat_or,-BitVec.toNat_xor,-BitVec.toNat_and])
   (repeat with_reducible refine om ?_)
   refine hN _ (k+1) ?_ (by omega) (by omega)
   apply Le.of<;>simp[le9,hR,p5,z6]<;>try omega
  ·obtain rfl:k=64:=by omega
   simp (disch:=omega) [zz,z6]
   refine hE _ _ (by simp) ?_
   simp (disch:=omega) [zz,z6]
   refine AT.loopV (α:=Nat) (fun k ver=>St.of [(0,.av .ptr (.ptr B (.arr 8 152) [])),(99,.av (.arr 8 152) (.agg ((rnd b s 64).map kZ))),(100,.av (.int .i64) (.i .i64 k))] [] ver [(B,.var (.arr 8 152) (.agg (((jH s b).take k++s.drop k).map kZ)))])
    (fun k=>k<=8) (fun k=>8-k) 0 ?_ ?_ ?_
   ·apply Le.of<;>simp[le9,z6]<;>try omega
   ·simp
   ·rintro k ver2 hk KL2 hN2 hE2
    have hcl:=KX (b:=b) hs
    refine zrd zih ?_
    by_cases hlt:k<8
    ·have hlt':(k:Int)<8:=by omega
     have hrl:=U8 (b:=b) hs 64
     obtain⟨x,hx⟩:∃x,s[k]?=some x:=⟨_,List.getElem?_eq_getElem (by omega)⟩
     obtain⟨y,hy⟩:∃x,(rnd b s 64)[k]?=some x:=⟨_,List.getElem?_eq_getElem (by omega)⟩
     have hsq:=zea (C:=jH s b) rfl hs hrl hlt hx hy
     have hg:(((jH s b).take k++s.drop k).map kZ)[k]?=some (kZ x):=by
      rw[List.getElem?_map,List.getElem?_append_right (by rw[List.length_take];omega),List.getElem?_drop]
      simp[hcl,Nat.min_eq_left (Nat.le_of_lt hlt),hx]
     have hll:(((jH s b).take k++s.drop k).map kZ).length=8:=by simp[hcl,hs];omega
     generalize ((jH s b).take k++s.drop k).map kZ=Z at *
     generalize rnd b s 64=R at *
     have gy:∀g:k<R.length,R[k]=y:=fun g=>by rw[List.getElem?_eq_getElem g]at hy;simpa using hy
     have gz:∀g:k<Z.length,Z[k]=kZ x:=fun g=>by rw[List.getElem?_eq_getElem g]at hg;simpa using hg
     simp (disch:=omega) [zz,hlt',gy,gz,hll,vV,z6]
     (repeat with_reducible refine om ?_)
     refine hN2 _ (k+1) ?_ (by omega) (by omega)
     rw[List.map_append,List.map_take,List.map_drop]at hsq
     apply Le.of<;>simp[le9,hsq,z6]<;>try omega
    ·obtain rfl:k=8:=by omega
     have e1:(jH s b).take 8++s.drop 8=jH s b:=by rw[List.take_of_length_le (by omega),List.drop_of_length_le (by omega),List.append_nil]
     simp (disch:=omega) [zz,z6]
     refine hE2 _ _ (by simp) ?_
     simp (disch:=omega) [zz,Tryz.f158,z6]
     try (rw[<-List.map_take,<-List.map_drop,<-List.map_append,e1])
     try simp[AV.erks_eq,Function.comp_def,AV.erk,z6]
theorem zjY (B:Nat) (s:List UInt32) (b:List UInt8) (hs:s.length=8) (hb:b.length=64) {op nn:AV} (hop:op.erk=op) (hnn:nn.erk=nn) :
  q7 Tryz.prog 158 [.av .ptr (.ptr B (q9 Tryz.prog 215) [0]),.av (.slice 5) (yB b)] [(B,.var (q9 Tryz.prog 215) (.agg [.agg (s.map kZ),op,nn]))] fun r H'=>r=.tup []/\H'=[(B,.var (q9 Tryz.prog 215) (.agg [.agg ((jH s b).map kZ),op,nn]))]:=by
 refine zov Tryz.func158 zih fun imm0 w0=>?_
 simp (disch:=omega) [zz,hop,hnn]
 (repeat with_reducible refine om ?_)
 refine zcd (G5) ?_;(simp (disch:=first|omega|assumption) [zz,hop,hnn])
 (repeat with_reducible refine om ?_)
 refine qO (zb5 b hb) rfl rfl (by simp) (by simp[qR,TV.er]) ?_
 simp (disch:=omega) [zz,hop,hnn]
 refine AT.loopV (α:=Nat) (fun k ver=>St.of [(0,.av .ptr (.ptr B (q9 Tryz.prog 215) [0])),(4,.loc 4 []),(5,.loc 5 []),(19,.av (.arr 64 152) (.agg ((Q4 b 64).map kZ))),(20,.av (.int .i64) (.i .i64 k))] [(4,(.arr 8 152,.agg ((rnd b s k).map kZ))),(5,(.arr 64 152,.agg (k64.map kZ)))] ver [(B,.var (q9 Tryz.prog 215) (.agg [.agg (s.map kZ),op,nn]))])
  (fun k=>k<=64) (fun k=>64-k) 0 ?_ ?_ ?_
 ·apply Le.of<;>simp[le9,rnd,hop,hnn]<;>try omega
 ·simp
 ·rintro k ver hk KL hN hE
  refine zrd zih ?_
  by_cases hlt:k<64
  ·have hlt':(k:Int)<64:=by omega
   obtain⟨v0,v1,v2,v3,v4,v5,v6,v7,hv⟩:=zjS (U8 (b:=b) hs k)
   obtain⟨kk,hkk⟩:∃x,k64[k]?=some x:=⟨_,List.getElem?_eq_getElem (by simp[k64];omega)⟩
   obtain⟨ww,hww⟩:∃x,(Q4 b 64)[k]?=some x:=⟨_,List.getElem?_eq_getElem (by simp;omega)⟩
   have hR:rnd b s (k+1)=p5 [v0,v1,v2,v3,v4,v5,v6,v7] kk ww:=by rw[rnd,hv,hkk,hww];rfl
   have hkl:k64.length=64:=rfl
   have hwl:=YZ b 64
   generalize k64=KK at *
   generalize Q4 b 64=W at *
   have gk:∀h:k<KK.length,KK[k]=kk:=fun h=>by rw[List.getElem?_eq_getElem h]at hkk;simpa using hkk
   have gw:∀h:k<W.length,W[k]=ww:=fun h=>by rw[List.getElem?_eq_getElem h]at hww;simpa using hww
   simp (disch:=omega) [zz,hlt',hv,gw,hop,hnn]
   (repeat with_reducible refine om ?_)
   refine zcd (kI v4 6 (by decide) (by decide)) ?_;(simp (disch:=first|omega|assumption) [zz,vV,wor,gQ,PX,PU,UO,-BitVec.toNat_or,-BitVec.toNat_xor,-BitVec.toNat_and])
   refine zcd (kI v4 11 (by decide) (by decide)) ?_;(simp (disch:=first|omega|assumption) [zz,vV,wor,gQ,PX,PU,UO,-BitVec.toNat_or,-BitVec.toNat_xor,-BitVec.toNat_and])
   refine zcd (kI v4 25 (by decide) (by decide)) ?_;(simp (disch:=first|omega|assumption) [zz,vV,wor,gQ,PX,PU,UO,-BitVec.toNat_or,-BitVec.toNat_xor,-BitVec.toNat_and,gk,gw])
   (repeat with_reducible refine om ?_)
   refine zcd (kI v0 2 (by decide) (by decide)) ?_;(simp (disch:=first|omega|assumption) [zz,vV,wor,gQ,PX,PU,UO,-BitVec.toNat_or,-BitVec.toNat_xor,-BitVec.toNat_and])
   refine zcd (kI v0 13 (by decide) (by decide)) ?_;(simp (disch:=first|omega|assumption) [zz,vV,wor,gQ,PX,PU,UO,-BitVec.toNat_or,-BitVec.toNat_xor,-BitVec.toNat_and])
   refine zcd (kI v0 22 (by decide) (by decide)) ?_;(simp (disch:=first|omega|assumption) [zz,vV,wor,gQ,PX,PU,UO,-BitVec.toNat_or,-BitVec.toNat_xor,-BitVec.toNat_and])
   (repeat with_reducible refine om ?_)
   refine hN _ (k+1) ?_ (by omega) (by omega)
   apply Le.of<;>simp[le9,hR,p5,hop,hnn]<;>try omega
  ·obtain rfl:k=64:=by omega
   simp (disch:=omega) [zz,hop,hnn]
   refine hE _ _ (by simp) ?_
   simp (disch:=omega) [zz,hop,hnn]
   refine AT.loopV (α:=Nat) (fun k ver=>St.of [(0,.av .ptr (.ptr B (q9 Tryz.prog 215) [0])),(99,.av (.arr 8 152) (.agg ((rnd b s 64).map kZ))),(100,.av (.int .i64) (.i .i64 k))] [] ver [(B,.var (q9 Tryz.prog 215) (.agg [.agg (((jH s b).take k++s.drop k).map kZ),op,nn]))])
    (fun k=>k<=8) (fun k=>8-k) 0 ?_ ?_ ?_
   ·apply Le.of<;>simp[le9,hop,hnn]<;>try omega
   ·simp
   ·rintro k ver2 hk KL2 hN2 hE2
    have hcl:=KX (b:=b) hs
    refine zrd zih ?_
    by_cases hlt:k<8
    ·have hlt':(k:Int)<8:=by omega
     have hrl:=U8 (b:=b) hs 64
     obtain⟨x,hx⟩:∃x,s[k]?=some x:=⟨_,List.getElem?_eq_getElem (by omega)⟩
     obtain⟨y,hy⟩:∃x,(rnd b s 64)[k]?=some x:=⟨_,List.getElem?_eq_getElem (by omega)⟩
     have hsq:=zea (C:=jH s b) rfl hs hrl hlt hx hy
     have hg:(((jH s b).take k++s.drop k).map kZ)[k]?=some (kZ x):=by
      rw[List.getElem?_map,List.getElem?_append_right (by rw[List.length_take];omega),List.getElem?_drop]
      simp[hcl,Nat.min_eq_left (Nat.le_of_lt hlt),hx]
     have hll:(((jH s b).take k++s.drop k).map kZ).length=8:=by simp[hcl,hs];omega
     generalize ((jH s b).take k++s.drop k).map kZ=Z at *
     generalize rnd b s 64=R at *
     have gy:∀g:k<R.length,R[k]=y:=fun g=>by rw[List.getElem?_eq_getElem g]at hy;simpa using hy
     have gz:∀g:k<Z.length,Z[k]=kZ x:=fun g=>by rw[List.getElem?_eq_getElem g]at hg;simpa using hg
     simp (disch:=omega) [zz,hlt',gy,gz,hll,vV,hop,hnn]
     (repeat with_reducible refine om ?_)
     refine hN2 _ (k+1) ?_ (by omega) (by omega)
     rw[List.map_append,List.map_take,List.map_drop]at hsq
     apply Le.of<;>simp[le9,hsq,hop,hnn]<;>try omega
    ·obtain rfl:k=8:=by omega
     have e1:(jH s b).take 8++s.drop 8=jH s b:=by rw[List.take_of_length_le (by omega),List.drop_of_length_le (by omega),List.append_nil]
     simp (disch:=omega) [zz,hop,hnn]
     refine hE2 _ _ (by simp) ?_
     simp (disch:=omega) [zz,Tryz.f158,hop,hnn]
     try (rw[<-List.map_take,<-List.map_drop,<-List.map_append,e1])
     try simp[AV.erks_eq,Function.comp_def,AV.erk,hop,hnn]
abbrev zp3:Cfg:=⟨fun n=>n==3,fun _=>false⟩
noncomputable abbrev UU:TyD:=q9 Tryz.prog 215
noncomputable def j1 (B:Nat) (s:List UInt32) (op:AV) (n:Nat):q8:=[(B,.var UU (.agg [.agg (s.map kZ),op,.i .u64 n]))]
theorem zjk:q7 Tryz.prog 120 [] [] fun r H'=>∃B,r=.av .ptr (.ptr B UU [])/\H'=j1 B h8 (.sl .full []) 0:=by
 refine zov Tryz.func120 zp3 fun imm0 w0=>?_
 simp (disch:=omega) [zz]
 refine qO zkv rfl rfl (by simp) (by simp[qR]) ?_
 simp (disch:=omega) [zz]
 intro B
 simp (disch:=omega) [zz,Tryz.f120]
 simp[j1,AV.erks_eq,Function.comp_def,AV.erk]
theorem zbo {t u:List UInt8}:∀ {n:Nat},64*n<=t.length->QL (t++u) n=QL t n
 | 0,_=>rfl
 | n+1,h=>by
  rw[QL,QL,zbo (by omega),List.drop_append_of_le_length (by omega),List.take_append_of_le_length (by simp;omega)]
abbrev znD:Cfg:=⟨fun _=>false,fun n=>n==39⟩
theorem zkV (B:Nat) (l:List UInt8) (hl:l.length<=1000000000000) :
  q7 Tryz.prog 121 [.av .ptr (.ptr B UU []),.av .str (.s l)] (j1 B h8 (.sl .full []) 0) fun r H'=>r=.tup []/\H'=j1 B (QL l (l.length / 64)) (yB (l.drop (64*(l.length / 64)))) l.length:=by
 have hbe:∀x,yB x=.sl .no (x.map KE):=fun _=>rfl
 refine zov Tryz.func121 znD fun imm0 w0=>?_
 simp (disch:=omega) [zz,j1,zfI,yT]
 (repeat with_reducible refine om ?_)
 refine AT.loopV (α:=Nat) (fun k ver=>St.of [(0,.av .ptr (.ptr B UU []))] [] ver (j1 B (QL l k) (yB (l.drop (64*k))) l.length))
  (fun k=>64*k<=l.length) (fun k=>l.length-64*k) 0 ?_ ?_ ?_
 ·refine Le.ofW ?_ ?_ ?_ ?_ ?_<;>simp[zR,qI,zcK,dZ,zcE,zcw,zj9,zge,zcn,pB,DY,KW,QZ,KZ,QU,zC,qX,QM,J0,j1,QL,hbe]<;>try omega
 ·simp
 ·rintro k ver hk KL hN hE
  obtain⟨R,hR⟩:∃R,l.drop (64*k)=R:=⟨_,rfl⟩
  have hRl:R.length=l.length-64*k:=by rw[<-hR];simp
  have hkl:=GA l k
  have hn1:QL l (k+1)=jH (QL l k) (R.take 64):=by rw[QL,hR]
  have hn2:l.drop (64*(k+1))=R.drop 64:=by rw[<-hR,List.drop_drop];congr 1
  rw[hR]
  obtain⟨S,hS⟩:∃S,QL l k=S:=⟨_,rfl⟩
  rw[hS]at hn1 hkl |-
  refine zrd znD ?_
  by_cases hlt:64<=R.length
  ·have hlt':(64:Int)<=R.length:=by omega
   simp (disch:=omega) [zz,j1,hbe,hlt']
   (repeat with_reducible refine om ?_)
   refine w8 (R:=fun r H'=>r=.tup []/\H'=j1 B (jH S (R.take 64)) (yB R) l.length) rfl (by simp[qE]) (by simp) ?_ ?_
   ·have:=zjY B S (R.take 64) hkl (by simp;omega) (op:=yB R) (nn:=.i .u64 l.length) (by simp) (by simp[AV.erk])
    simpa[j1,hbe,TV.er,AV.er,AV.ers_eq,AV.erk,AV.erks,AV.erks_eq,q8.er_cons,q8.er_nil,HObj.er_var,Function.comp_def,Tok.k]using this
   ·rintro r H' ⟨rfl,rfl⟩
    simp (disch:=omega) [zz,j1,hbe]
    (repeat with_reducible refine om ?_)
    refine hN _ (k+1) ?_ (by omega) (by omega)
    rw[hn1,hn2]
    have htk:List.take R.length (List.map KE R)=List.map KE R:=List.take_of_length_le (by simp)
    refine Le.ofW ?_ ?_ ?_ ?_ ?_<;>simp[zR,qI,zcK,dZ,zcE,zcw,zj9,zge,zcn,pB,DY,KW,QZ,KZ,QU,zC,qX,QM,J0,j1,hbe,htk]<;>try omega
  ·have hlt':¬(64:Int)<=R.length:=by omega
   have hk2:l.length / 64=k:=by omega
   simp (disch:=omega) [zz,j1,hbe,hlt']
   refine hE _ _ (by simp) ?_
   simp (disch:=omega) [zz,Tryz.f121,j1,hbe,hk2,hS,hR]
   simp[AV.erks_eq,Function.comp_def,AV.erk,Tok.k,AV.ers_eq,AV.er]
def J7 (s:List UInt32) (t:List UInt8):Nat->List UInt32
 | 0=>s
 | n+1=>jH (J7 s t n) ((t.drop (64*n)).take 64)
theorem zbi {s:List UInt32} (t:List UInt8) (hs:s.length=8):∀n,(J7 s t n).length=8
 | 0=>hs
 | n+1=>KX (zbi t hs n)
def JX (op:List UInt8) (n:Nat):List UInt8:=op++[128]++List.replicate (X6 op.length) 0++WM n
abbrev zlK:Cfg:=⟨fun n=>n==3,fun _=>false⟩
theorem VN:∀l:List UInt8,bytesOf (l.map KE)=some l
 | []=>rfl
 | b::l=>by simp[bytesOf,VN l]
theorem zlW (B:Nat) (s:List UInt32) (op:List UInt8) (n:Nat) (hs:s.length=8) (hop:op.length<64) (hn:n<=1000000000000) :
  q7 Tryz.prog 122 [.av .ptr (.ptr B UU [])] (j1 B s (yB op) n) fun r H'=>r=.av (q9 Tryz.prog 95) (JG (WX (J7 s (JX op n) ((JX op n).length / 64))))/\H'=j1 B s (yB op) n:=by
 have hbe:∀x,yB x=.sl .no (x.map KE):=fun _=>rfl
 refine q7.drop (R:=fun r H'=>r=.av (q9 Tryz.prog 95) (JG (WX (J7 s (JX op n) ((JX op n).length / 64))))/\∃B2 o,H'=(B2,o)::j1 B s (yB op) n) ?_ ?_
 rotate_left
 ·rintro r H' ⟨rfl,B2,o,rfl⟩
  exact⟨_,List.sublist_cons_self _ _,rfl,rfl⟩
 have hp:=zmb op.length
 refine zov Tryz.func122 zlK fun imm0 w0=>?_
 simp (disch:=omega) [zz,j1,hbe]
 intro B2 hB2
 simp (disch:=omega) [zz,j1,hbe,VN,yT,hB2]
 (repeat with_reducible refine om ?_)
 refine AT.loopV (α:=Nat × Nat) (fun k ver=>St.of [(0,.av .ptr (.ptr B UU [])),(2,.loc 2 []),(3,.av .ptr (.ptr B2 (.arr 8 152) [])),(4,.av (.slice 5) (.sl (.own k.2 (ver k.2)) ((op++[128]++List.replicate k.1 0).map KE)))] [(2,(q9 Tryz.prog 95,.agg (List.replicate 32 (.i .u8 0))))] ver ((B2,.var (.arr 8 152) (.agg (s.map kZ)))::j1 B s (yB op) n))
  (fun k=>k.1<=X6 op.length) (fun k=>X6 op.length-k.1) (0,23) ?_ ?_ ?_
 ·apply Le.of<;>simp[le9,zeE,j1,hbe]<;>try omega
 ·simp
 rintro⟨k,tk⟩ ver hk KL hN hE
 simp only at hk hN
 refine zrd zlK ?_
 have hlen:((op.length:Int)+((k:Int)+1)).tmod 64=(((op.length+1+k) % 64:Nat):Int):=by
  rw[Int.tmod_eq_emod_of_nonneg (by omega)];omega
 by_cases hkt:k<X6 op.length
 ·have hne:=ziI hkt
  have hne':¬((op.length:Int)+((k:Int)+1)).tmod 64=56:=by rw[hlen];omega
  simp (disch:=omega) [zz,yT,hne']
  (repeat with_reducible refine om ?_)
  refine hN _ (k+1,30) ?_ (by first|omega|(simp;done)|(simp;omega)) (by first|omega|(simp;done)|(simp;omega));apply Le.of<;>simp[le9,List.replicate_succ',zci,zeE]<;>try omega
 have hke:k=X6 op.length:=by omega
 subst hke
 have hsp:=zbG op.length
 have hne':((op.length:Int)+((X6 op.length:Int)+1)).tmod 64=56:=by rw[hlen];omega
 simp (disch:=omega) [zz,hne']
 refine hE _ _ (by simp) ?_
 simp (disch:=omega) [zz,zfI]
 refine AT.loopV (α:=Nat × Nat) (fun k ver=>St.of [(0,.av .ptr (.ptr B UU [])),(2,.loc 2 []),(3,.av .ptr (.ptr B2 (.arr 8 152) [])),(4,.av (.slice 5) (.sl (.own k.2 (ver k.2)) ((op++[128]++List.replicate (X6 op.length) 0++(WM n).take (8-k.1)).map KE))),(5,.av (.int .i64) (.i .i64 (8*(k.1:Int)-8)))] [(2,(q9 Tryz.prog 95,.agg (List.replicate 32 (.i .u8 0))))] ver ((B2,.var (.arr 8 152) (.agg (s.map kZ)))::j1 B s (yB op) n))
  (fun k=>k.1<=8) (fun k=>k.1) (8,tk) ?_ ?_ ?_
 ·apply Le.of<;>simp[le9,j1,hbe]<;>try omega
 ·simp
 rintro⟨j,tk2⟩ ver2 hj KL2 hN2 hE2
 simp only at hj hN2
 refine zrd zlK ?_
 cases j with
 | succ j =>
  have hlb:(WM n).length=8:=rfl
  have hst:=zhN n j (by omega)
  have e3:=zp5 (n*8) (8*j) (by omega)
  have hst':((WM n).map KE).take (8-j)=((WM n).map KE).take (7-j)++[KE (UInt8.ofNat (n*8 / 2 ^ (8*j)))]:=by
   rw[<-List.map_take,hst,List.map_append,List.map_take];rfl
  have e8:=znH (n*8 / 2 ^ (8*j))
  simp at e8
  have hge:(0:Int)<=8*(j:Int):=by omega
  push_cast at e3
  have hq:8*((j:Int)+1)-8=8*j:=by omega
  simp (disch:=omega) [zz,yT,e3,znH,hge,j1,hq,hB2,Int.mul_comm 8 (n:Int),zfI]
  (repeat with_reducible refine om ?_)
  refine hN2 _ (j,45) ?_ (by first|omega|(simp;done)|(simp;omega)) (by first|omega|(simp;done)|(simp;omega));apply Le.of<;>simp[le9,hst',e8,j1,hbe]<;>try omega
 | zero =>
  simp (disch:=omega) [zz,j1]
  refine hE2 _ _ (by simp) ?_
  obtain⟨T,hT⟩:∃T,JX op n=T:=⟨_,rfl⟩
  have hTm:T.length % 64=0:=by
   rw[<-hT];simp[JX,WM];omega
  obtain⟨M,hM⟩:∃M,T.length=64*M:=⟨T.length / 64,by omega⟩
  have hTl:T.length<=200:=by rw[<-hT];simp[JX,WM];omega
  have hTM:T.length / 64=M:=by omega
  have hTe:List.map KE op++KE 128::(List.replicate (X6 op.length) (KE 0)++List.take 8 (List.map KE (WM n)))=List.map KE T:=by
   rw[<-hT];simp[JX,WM]
  rw[hT,hTM]
  clear hE2 hN2
  simp (disch:=omega) [zz,j1,hTe]
  refine AT.loopV (α:=Nat) (fun k ver=>St.of [(0,.av .ptr (.ptr B UU [])),(2,.loc 2 []),(3,.av .ptr (.ptr B2 (.arr 8 152) [])),(4,.av (.slice 5) (yB (T.drop (64*k))))] [(2,(q9 Tryz.prog 95,.agg (List.replicate 32 (.i .u8 0))))] ver ((B2,.var (.arr 8 152) (.agg ((J7 s T k).map kZ)))::j1 B s (yB op) n))
   (fun k=>k<=M) (fun k=>M-k) 0 ?_ ?_ ?_
  ·apply Le.of<;>simp[le9,j1,hbe,J7]<;>try omega
  ·simp
  rintro k ver3 hk KL3 hN3 hE3
  have hkl:=zbi T hs k
  refine zrd zlK ?_
  by_cases hlt:k<M
  ·obtain⟨R,hR⟩:∃R,T.drop (64*k)=R:=⟨_,rfl⟩
   have hRl:R.length=T.length-64*k:=by rw[<-hR];simp
   have hn1:J7 s T (k+1)=jH (J7 s T k) (R.take 64):=by rw[J7,hR]
   have hn2:T.drop (64*(k+1))=R.drop 64:=by rw[<-hR,List.drop_drop];congr 1
   rw[hR]
   have hpos:0<R.length:=by omega
   simp (disch:=omega) [zz,j1,hbe,hpos]
   (repeat with_reducible refine om ?_)
   refine qD (R:=fun r H'=>r=.tup []/\H'=[(B2,.var (.arr 8 152) (.agg ((jH (J7 s T k) (R.take 64)).map kZ)))]) [(B2,.var (.arr 8 152) (.agg ((J7 s T k).map kZ)))] (j1 B s (yB op) n) (by simp[j1,hbe]) rfl (by simp[qE]) (by simp) ?_ ?_
   ·have:=znb B2 (J7 s T k) (R.take 64) hkl (by simp;omega)
    simpa[j1,hbe,TV.er,AV.er,AV.ers_eq,AV.erk,AV.erks,AV.erks_eq,q8.er_cons,q8.er_nil,HObj.er_var,Function.comp_def,Tok.k]using this
   ·rintro r H' ⟨rfl,rfl⟩ _
    refine⟨_,HSub.refl _,?_⟩
    simp (disch:=omega) [zz,j1,hbe]
    (repeat with_reducible refine om ?_)
    have htk:List.take R.length (List.map KE R)=List.map KE R:=List.take_of_length_le (by simp)
    refine hN3 _ (k+1) ?_ (by omega) (by omega)
    rw[hn1,hn2]
    refine Le.ofW ?_ ?_ ?_ ?_ ?_<;>simp[zR,qI,zcK,dZ,zcE,zcw,zj9,zge,zcn,pB,DY,KW,QZ,KZ,QU,zC,qX,QM,J0,j1,hbe,htk]<;>try omega
  ·obtain rfl:k=M:=by omega
   have hdn:T.drop (64*k)=[]:=List.drop_eq_nil_of_le (by omega)
   rw[hdn]
   simp (disch:=omega) [zz,j1,hbe]
   refine hE3 _ _ (by simp) ?_
   simp (disch:=omega) [zz,j1]
   obtain⟨D,hD⟩:∃D,WX (J7 s T k)=D:=⟨_,rfl⟩
   have hDl:D.length=32:=by rw[<-hD];exact zdj _
   refine AT.loopV (α:=Nat) (fun j ver=>St.of [(2,.loc 2 []),(3,.av .ptr (.ptr B2 (.arr 8 152) [])),(6,.loc 6 []),(54,.av (.int .i64) (.i .i64 j))] [(2,(q9 Tryz.prog 95,.agg (List.replicate 32 (.i .u8 0)))),(6,(q9 Tryz.prog 95,.agg ((D.take j++List.replicate (32-j) 0).map KE)))] ver ((B2,.var (.arr 8 152) (.agg ((J7 s T k).map kZ)))::j1 B s (yB op) n))
    (fun j=>j<=32) (fun j=>32-j) 0 ?_ ?_ ?_
   ·apply Le.of<;>simp[le9,zci,j1,hbe]<;>try omega
   ·simp
   ·rintro j ver4 hj KL4 hN4 hE4
    refine zrd zlK ?_
    by_cases hjt:j<32
    ·obtain⟨q,hq⟩:∃q:Nat,j / 4=q:=⟨_,rfl⟩
     obtain⟨r,hr⟩:∃r:Nat,j % 4=r:=⟨_,rfl⟩
     have hq':(j:Int).tdiv 4=(q:Int):=by rw[Int.tdiv_eq_ediv_of_nonneg (by omega)];omega
     have hr':(j:Int).tmod 4=(r:Int):=by rw[Int.tmod_eq_emod_of_nonneg (by omega)];omega
     have hjt':(j:Int)<32:=by omega
     obtain⟨x,hx⟩:∃x,(J7 s T k)[q]?=some x:=⟨_,List.getElem?_eq_getElem (by omega)⟩
     have hDj:D[j]?=some (x >>> UInt32.ofNat (24-8*r)).toUInt8:=by
      rw[<-hD]
      simp[WX,hjt,hq,hr,hx]
     have hsq:((D.take j++List.replicate (32-j) 0).map KE).set j (KE (x >>> UInt32.ofNat (24-8*r)).toUInt8)=(D.take (j+1)++List.replicate (32-(j+1)) 0).map KE:=by
      rw[<-List.map_set,List.take_add_one,hDj,show 32-j=(32-(j+1))+1 by omega,List.replicate_succ]
      simp[List.set_append_right,hDl,Nat.min_eq_left (Nat.le_of_lt hjt)]
     generalize J7 s T k=H at *
     have hy:=zqa (x >>> UInt32.ofNat (24-8*r))
     generalize (x >>> UInt32.ofNat (24-8*r)).toUInt8=y at *
     have gx:∀g:q<H.length,H[q]=x:=fun g=>by rw[List.getElem?_eq_getElem g]at hx;simpa using hx
     simp (disch:=omega) [zz,hjt',hq',hr',gx,UO,hy,j1]
     (repeat with_reducible refine om ?_)
     simp only[List.map_append,List.map_take,List.map_replicate,zci]at hsq
     refine hN4 _ (j+1) ?_ (by first|omega|(simp;done)|(simp;omega)) (by first|omega|(simp;done)|(simp;omega));apply Le.of<;>simp[le9,hsq,zci,j1]<;>try omega
    ·obtain rfl:j=32:=by omega
     simp (disch:=omega) [zz]
     refine hE4 _ _ (by simp) ?_
     simp (disch:=omega) [zz,Tryz.f122,j1]
     rw[hD,zno,List.take_of_length_le (by simp[hDl])]
     simp[AV.ers_eq,Function.comp_def,AV.er,AV.erk,AV.erks_eq,hbe,Tok.k]
theorem P8 (t:List UInt8) (q:Nat):∀m,QL t (q+m)=J7 (QL t q) (t.drop (64*q)) m
 | 0=>rfl
 | m+1=>by
  rw[<-Nat.add_assoc,QL,J7,P8 t q m,List.drop_drop]
  congr 3;omega
theorem zc5 (l:List UInt8):(KM l).drop (64*(l.length / 64))=JX (l.drop (64*(l.length / 64))) l.length:=by
 have hp:X6 (l.length-64*(l.length / 64))=X6 l.length:=by unfold X6;omega
 have h0:64*(l.length / 64)<=l.length:=by omega
 simp only[KM,JX,List.length_drop,hp,List.append_assoc]
 rw[List.drop_append_of_le_length h0]
theorem zhT (l:List UInt8):WX (J7 (QL l (l.length / 64)) (JX (l.drop (64*(l.length / 64))) l.length) ((JX (l.drop (64*(l.length / 64))) l.length).length / 64))=sha l:=by
 have hm:=zgm l
 have hs:=zc5 l
 have hlen:(KM l).length / 64=l.length / 64+(JX (l.drop (64*(l.length / 64))) l.length).length / 64:=by
  rw[<-hs,List.length_drop]
  have:l.length<=(KM l).length:=by simp[KM]
  omega
 have ha:QL (KM l) (l.length / 64)=QL l (l.length / 64):=by
  have:KM l=l++([128]++List.replicate (X6 l.length) 0++WM l.length):=by simp[KM]
  rw[this]
  exact zbo (by omega)
 rw[sha,hlen,P8,hs,ha]
def zeQ (l:List UInt8):AV:=.sl .no [.s l]
theorem zlD (l:List UInt8) (hl:l.length<=1000000000000):PC Tryz.prog 76 [.av (.slice 9) (zeQ l)] (.av (q9 Tryz.prog 95) (JG (sha l))):=by
 have hbe:∀x,yB x=.sl .no (x.map KE):=fun _=>rfl
 refine zow Tryz.func76 cf0 fun imm0 w0=>?_
 simp (disch:=omega) [zz,zeQ]
 refine w8 (R:=fun r H'=>∃B,r=.av .ptr (.ptr B UU [])/\H'=j1 B h8 (.sl .full []) 0) rfl (by simp[qE]) (by simp) ?_ ?_
 ·simpa[q8.er_nil]using zjk
 rintro r H' ⟨B,rfl,rfl⟩
 simp (disch:=omega) [zz,j1]
 refine AT.loopV (α:=Nat) (fun k ver=>St.of [(2,.loc 2 []),(3,.av .ptr (.ptr B UU [])),(7,.av (.slice 9) (.sl .no [.s l])),(8,.av (.int .i64) (.i .i64 1)),(9,.av (.int .i64) (.i .i64 k))] [(2,(q9 Tryz.prog 95,.agg (List.replicate 32 (.i .u8 0))))] ver
   (match k with|0=>j1 B h8 (.sl .full []) 0|_+1=>j1 B (QL l (l.length / 64)) (yB (l.drop (64*(l.length / 64)))) l.length))
  (fun k=>k<=1) (fun k=>1-k) 0 ?_ ?_ ?_
 ·apply Le.of<;>simp[le9,j1]<;>try omega
 ·simp
 rintro k ver hk KL hN hE
 refine zrd cf0 ?_
 cases k with
 | zero =>
  simp (disch:=omega) [zz,j1]
  refine w8 (R:=fun r H'=>r=.tup []/\H'=j1 B (QL l (l.length / 64)) (yB (l.drop (64*(l.length / 64)))) l.length) rfl (by simp[qE]) (by simp) ?_ ?_
  ·have:=zkV B l hl
   simpa[j1,TV.er,AV.er,AV.ers_eq,AV.erk,AV.erks,AV.erks_eq,q8.er_cons,q8.er_nil,HObj.er_var,Function.comp_def,Tok.k]using this
  ·rintro r H' ⟨rfl,rfl⟩
   simp (disch:=omega) [zz,j1]
   refine hN _ 1 ?_ (by first|omega|(simp;done)|(simp;omega)) (by first|omega|(simp;done)|(simp;omega));apply Le.of<;>simp[le9,j1]<;>try omega
 | succ k =>
  obtain rfl:k=0:=by omega
  simp (disch:=omega) [zz,j1]
  refine hE _ _ (by simp) ?_
  simp (disch:=omega) [zz,j1]
  refine w8 (R:=fun r H'=>r=.av (q9 Tryz.prog 95) (JG (sha l))/\H'=j1 B (QL l (l.length / 64)) (yB (l.drop (64*(l.length / 64)))) l.length) rfl (by simp[qE]) (by simp) ?_ ?_
  ·have:=zlW B (QL l (l.length / 64)) (l.drop (64*(l.length / 64))) l.length (GA l _) (by simp;omega) hl
   rw[zhT]at this
   simpa[j1,TV.er,AV.er,AV.ers_eq,AV.erk,AV.erks,AV.erks_eq,q8.er_cons,q8.er_nil,HObj.er_var,Function.comp_def,Tok.k]using this
  ·rintro r H' ⟨rfl,rfl⟩
   simp (disch:=omega) [zz,Tryz.f76]
end
end Go.Proofs.YtdkieabmeiojjaaGreatDoor
