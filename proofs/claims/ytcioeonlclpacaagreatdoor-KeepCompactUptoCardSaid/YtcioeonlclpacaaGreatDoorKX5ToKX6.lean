/- The document's answer for a journal's bytes: the program. No condition beyond each theorem's own. -/
import Derived.Test.YtcioeonlclpacaaGreatDoorP20ToKJ0
import Derived.Test.YtcioeonlclpacaaGreatDoorKW8ToKX4
set_option linter.unusedSimpArgs false
set_option linter.unusedVariables false
set_option linter.unusedSectionVars false
section
set_option maxRecDepth 100000
namespace Go.Proofs.YtcioeonlclpacaaGreatDoor
open Go Go.Ab
open Classical
variable [Sel] [SelPow]
@[simp] theorem zAv:qZ Tryz.prog 41=true:=by kernel_rfl
@[simp] theorem zBl:z8 Tryz.prog (.func 41)=false:=q9 zAv
@[simp] theorem zo8:qZ Tryz.prog 90=true:=by kernel_rfl
@[simp] theorem zsm:z8 Tryz.prog (.func 90)=false:=q9 zo8
theorem w83 (n c:Nat):IntKind.u8.wrap ((n:Int) / (c:Int) % 256)=((UInt8.ofNat (n / c)).toNat:Int):=by
 rw[←Int.natCast_ediv,show ((n / c:Nat):Int) % 256=((n / c % 256:Nat):Int) by omega,znm]
 congr 1
 rw[UInt8.toNat_ofNat',UInt8.toNat_ofNat'];omega
theorem w84 (n:Nat):IntKind.u8.wrap ((n:Int) % 256)=((UInt8.ofNat n).toNat:Int):=by
 have:=w83 n 1
 simpa using this
theorem zXn (d:Dig) (k:Nat) (h:k<d.length):(d.map fun b=>AV.i .u8 b.toNat)[k]?=some (.i .u8 (d[k]).toNat):=by simp[List.getElem?_eq_getElem h]
set_option maxHeartbeats 8000000 in
theorem zWR (r:List UInt8) (hr:r.length≤10000000000):PC Tryz.prog 90 [.av .str (.s r)] (.av .str (.s (zKL r))):=by
 have g1:IntKind.u8.wrap ((r.length:Int) / 16777216)=((UInt8.ofNat (r.length / 16777216)).toNat:Int):=w8 _ 16777216
 have g2:IntKind.u8.wrap ((r.length:Int) / 65536 % 256)=((UInt8.ofNat (r.length / 65536)).toNat:Int):=w83 _ 65536
 have g3:IntKind.u8.wrap ((r.length:Int) / 256 % 256)=((UInt8.ofNat (r.length / 256)).toNat:Int):=w83 _ 256
 have g4:=w84 r.length
 have t1:(r.length:Int).tdiv 16777216=(r.length:Int) / 16777216:=Int.tdiv_eq_ediv_of_nonneg (by omega)
 have t2:(r.length:Int).tdiv 65536=(r.length:Int) / 65536:=Int.tdiv_eq_ediv_of_nonneg (by omega)
 have t3:(r.length:Int).tdiv 256=(r.length:Int) / 256:=Int.tdiv_eq_ediv_of_nonneg (by omega)
 have t4:((r.length:Int) / 65536).tmod 256=(r.length:Int) / 65536 % 256:=Int.tmod_eq_emod_of_nonneg (by omega)
 have t5:((r.length:Int) / 256).tmod 256=(r.length:Int) / 256 % 256:=Int.tmod_eq_emod_of_nonneg (by omega)
 have t6:(r.length:Int).tmod 256=(r.length:Int) % 256:=Int.tmod_eq_emod_of_nonneg (by omega)
 have h4:(be4 r.length).length=4:=rfl
 have hsl:(sha (be4 r.length++r)).length=32:=zKU _
 have hs2:=zNr (be4 r.length++r) (by rw[List.length_append];omega)
 have hb4:be4 r.length=[UInt8.ofNat (r.length / 16777216),UInt8.ofNat (r.length / 65536),UInt8.ofNat (r.length / 256),UInt8.ofNat r.length]:=rfl
 obtain⟨S,hS⟩:∃S,S=sha (be4 r.length++r):=⟨_,rfl⟩
 have hh:zKL r=be4 r.length++S.take 8:=by rw[hS];rfl
 rw[←hS]at hs2 hsl
 rw[hh]
 have hE:KW S=.agg (S.map fun b=>.i .u8 b.toNat):=rfl
 refine zow Tryz.func90 cf0 fun imm0 w0=>?_
 have k1:UInt8.ofNat ((r.length:Int) / 16777216 % 256).toNat=UInt8.ofNat (r.length / 16777216):=w81 _ 16777216
 have k2:UInt8.ofNat ((r.length:Int) / 65536 % 256).toNat=UInt8.ofNat (r.length / 65536):=w81 _ 65536
 have k3:UInt8.ofNat ((r.length:Int) / 256 % 256).toNat=UInt8.ofNat (r.length / 256):=w81 _ 256
 have k4:=w80 r.length
 simp (disch:=omega) [zz,t1,t2,t3,t4,t5,t6,g1,g2,g3,g4]
 refine⟨by omega,qL hs2 rfl rfl (by simp) (by simp[qS,TV.er,AV.er,AV.ers,hb4,k1,k2,k3,k4]) ?_⟩
 simp (disch:=omega) [zz,hE]
 refine AT.loop' (α:=Nat) (fun i=>St.of [(5,.loc 5 []),(6,.av .str (.s (be4 r.length++S.take i))),(7,.av (.int .i64) (.i .i64 i))] [(5,(qD Tryz.prog 46,.agg (S.map fun b=>.i .u8 b.toNat)))] (fun _=>0) [])
  (fun i=>i≤8) (fun i=>8-i) 0 ?_ ?_ ?_
 ·apply Le.of<;>simp[qU,qG,qO,qH,qP,qK,qF,qI,qJ,qN,hb4]<;>try omega
  exact⟨k1.symm,k2.symm,k3.symm,k4.symm⟩
 ·simp
 rintro i hi KL hN hE2
 refine qM (cf:=cf0) laid mixed _ _ _ (by kernel_rfl) ?_
 by_cases hlt:i<8
 ·have hlt':(i:Int)<8:=by omega
  have hge:(0:Int)≤i:=by omega
  have hl32:(i:Int)<32:=by omega
  have hgt:=zXn S i (by omega)
  have htk:S.take (i+1)=S.take i++[S[i]'(by omega)]:=List.take_succ_eq_append_getElem (by omega)
  simp (disch:=omega) [zz,hlt',hgt]
  refine⟨by omega,by omega,hN _ (i+1) ?_ (by omega) (by omega)⟩
  apply Le.of<;>simp[qU,qG,qO,qH,qP,qK,qF,qI,qJ,qN,]<;>try omega
 ·have hlt':¬(i:Int)<8:=by omega
  have hie:i=8:=by omega
  subst hie
  simp (disch:=omega) [zz]
  refine hE2 _ _ (by simp) ?_
  simp (disch:=omega) [zz,Tryz.f90]
theorem zWw (b:List UInt8) (h:4≤b.length):zL9 (b.take 4)=256*(256*(256*(256*0+(b[0]'(by omega)).toNat)+(b[1]'(by omega)).toNat)+(b[2]'(by omega)).toNat)+(b[3]'(by omega)).toNat:=by
 have e:=zSU h (List.getElem?_eq_getElem (by omega)) (List.getElem?_eq_getElem (by omega)) (List.getElem?_eq_getElem (by omega)) (List.getElem?_eq_getElem (by omega))
 rw[e]
 simp only[zL9]
 omega
def zVu (b:List UInt8) (i:Nat):Nat:=(b.take i).foldl (fun n x=>256*n+x.toNat) 0
theorem zUZ (b:List UInt8) (i:Nat) (h:i<b.length):zVu b (i+1)=256*zVu b i+b[i].toNat:=by
 unfold zVu
 rw[List.take_succ_eq_append_getElem h,List.foldl_append];rfl
theorem zVK (b:List UInt8):∀i,i≤4→i≤b.length→zVu b i<256 ^ i
 | 0,_,_=>by simp[zVu]
 | i+1,h,h2=>by
  have ih:=zVK b i (by omega) (by omega)
  have:=(b[i]'(by omega)).toNat_lt
  rw[zUZ b i (by omega),Nat.pow_succ]
  omega
theorem zWu (b:List UInt8) (h:4≤b.length):zVu b 4=zL9 (b.take 4):=by
 rw[zWw b h,zUZ b 3 (by omega),zUZ b 2 (by omega),zUZ b 1 (by omega),zUZ b 0 (by omega)]
 rfl
set_option maxHeartbeats 16000000 in
theorem zWB (b:List UInt8) (hb:b.length≤1000000000):PC Tryz.prog 41 [.av .str (.s b)] (.tup [(.slice 9,.sl .no (zz6 (zJc b))),(.int .i64,.i .i64 (q5 (zJc b)).length)]):=by
 refine zow Tryz.func41 cf0 fun imm0 w0=>?_
 simp (disch:=omega) [zz]
 refine AT.loopV (α:=List (List UInt8) × Option Nat) (fun x ver=>St.of [(0,.av .str (.s b)),(4,.av (.slice 9) (.sl (zIu ver x.2) (zz6 x.1))),(5,.av (.int .i64) (.i .i64 (q5 x.1).length))] [] ver [])
  (fun x=>zJc b=x.1++zJc (b.drop (q5 x.1).length)∧(q5 x.1).length≤b.length∧12*x.1.length≤(q5 x.1).length) (fun x=>b.length-(q5 x.1).length) ([],none) ?_ ?_ ?_
 ·apply Le.of<;>simp[qU,qG,qO,qH,qP,qK,qF,qI,qJ,qN,zz6,q5,zIu]<;>try omega
 ·simp[q5]
 rintro⟨l,o⟩ ver ⟨h1,h2,h3⟩ KL hN hE
 simp only at h1 h2 h3 hN
 obtain⟨R,hR⟩:∃R,R=b.drop (q5 l).length:=⟨_,rfl⟩
 rw[←hR]at h1
 have hRl:R.length=b.length-(q5 l).length:=by rw[hR,List.length_drop]
 obtain⟨q,hq⟩:∃q,q=(q5 l).length:=⟨_,rfl⟩
 rw[←hq]at hRl h2 hR h3 ⊢
 refine qM (cf:=cf0) laid mixed _ _ _ (by kernel_rfl) ?_
 by_cases h12:12≤R.length
 rotate_left
 ·have hlt':¬(q:Int)+12≤b.length:=by omega
  have hfn:g9 R=none:=by unfold g9;rw[if_pos (by omega)]
  have hsn:zJc b=l:=by rw[h1,zKl hfn,List.append_nil]
  simp (disch:=omega) [zz,hlt']
  refine hE _ _ (by simp) ?_
  simp (disch:=omega) [zz,Tryz.f41,hsn,hq]
 have hlt':(q:Int)+12≤b.length:=by omega
 have hRg:∀i (h:i<4),b[q+i]?=some (R[i]'(by omega)):=fun i h=>by
  rw[List.getElem?_eq_getElem (by omega)]
  simp only[hR,List.getElem_drop]
 simp (disch:=omega) [zz,hlt']
 refine AT.loop' (α:=Nat) (fun i=>St.of [(0,.av .str (.s b)),(4,.av (.slice 9) (.sl (zIu ver o) (zz6 l))),(5,.av (.int .i64) (.i .i64 q)),(6,.av (.int .i64) (.i .i64 (zVu R i))),(7,.av (.int .i64) (.i .i64 i))] [] ver [])
  (fun i=>i≤4) (fun i=>4-i) 0 ?_ ?_ ?_
 ·apply Le.of<;>simp[qU,qG,qO,qH,qP,qK,qF,qI,qJ,qN,zVu]<;>try omega
 ·simp
 ·rintro i hi KL2 hN2 hE2
  refine qM (cf:=cf0) laid mixed _ _ _ (by kernel_rfl) ?_
  by_cases hi4:i<4
  ·have hi4':(i:Int)<4:=by omega
   have hgb:=hRg i hi4
   have hns:=zUZ R i (by omega)
   have hnl:=zVK R i (by omega) (by omega)
   have hpw:256 ^ i≤256 ^ 3:=Nat.pow_le_pow_right (by omega) (by omega)
   have hx:=(R[i]'(by omega)).toNat_lt
   have hgq:b[q+i]'(by omega)=R[i]'(by omega):=by
    rw[List.getElem?_eq_getElem (by omega)]at hgb
    exact Option.some.inj hgb
   obtain⟨z,hz⟩:∃z,z=(R[i]'(by omega)).toNat:=⟨_,rfl⟩
   rw[←hz]at hx hns
   have hw1:IntKind.i64.wrap (z:Int)=z:=i64_in (by omega) (by omega)
   have hw2:IntKind.i64.wrap (256*(zVu R i:Int)+(z:Int))=(zVu R (i+1):Nat):=by rw[i64_in (by omega) (by omega)];omega
   simp (disch:=omega) [zz,hi4',hgb,hgq,←hz,hw1,hw2]
   refine⟨by omega,by omega,hN2 _ (i+1) ?_ (by omega) (by omega)⟩
   apply Le.of<;>simp[qU,qG,qO,qH,qP,qK,qF,qI,qJ,qN,]<;>try omega
  ·have hie:i=4:=by omega
   subst hie
   have hnf:=zWu R (by omega)
   have hnl:=zVK R 4 (by omega) (by omega)
   obtain⟨n,hn⟩:∃n,n=zVu R 4:=⟨_,rfl⟩
   rw[←hn]at hnf hnl
   have hnl2:n<4294967296:=hnl
   simp (disch:=omega) [zz,←hn]
   refine hE2 _ _ (by simp) ?_
   clear hE2 hN2
   by_cases hbig:1048576<n∨R.length-12<n
   ·have hfn:g9 R=none:=by unfold g9;rw[if_neg (by omega),←hnf,if_pos hbig]
    have hsn:zJc b=l:=by rw[h1,zKl hfn,List.append_nil]
    by_cases hb1:1048576<n
    ·have hb1':(1048576:Int)<n:=by omega
     simp (disch:=omega) [zz,hb1']
     refine hE _ _ (by simp) ?_
     simp (disch:=omega) [zz,Tryz.f41,hsn,hq]
    ·have hb1':¬(1048576:Int)<n:=by omega
     have hb2:(b.length:Int)<(q:Int)+12+n:=by omega
     simp (disch:=omega) [zz,hb1',hb2]
     refine hE _ _ (by simp) ?_
     simp (disch:=omega) [zz,Tryz.f41,hsn,hq]
   ·have hb1':¬(1048576:Int)<n:=by omega
    have hb2:¬(b.length:Int)<(q:Int)+12+n:=by omega
    obtain⟨r,hr⟩:∃r,r=(R.drop 12).take n:=⟨_,rfl⟩
    have hrl:r.length=n:=by rw[hr,List.length_take,List.length_drop];omega
    have hhd:=zWR r (by omega)
    have hs1:(b.take (q+12+n)).drop (q+12)=r:=by
     rw[hr,hR,List.drop_drop,List.drop_take]
     congr 1;omega
    have hs2:(b.take (q+12)).drop q=R.take 12:=by
     rw[hR,List.drop_take]
     congr 1;omega
    simp (disch:=omega) [zz,hb1',hb2,hs1]
    (repeat with_reducible refine om ?_)
    refine jC hhd rfl rfl (by simp) (by simp[qS,TV.er,AV.er]) ?_
    by_cases he:zKL r=R.take 12
    rotate_left
    ·have hfn:g9 R=none:=by unfold g9;rw[if_neg (by omega),←hnf,if_neg hbig,←hr,if_neg he]
     have hsn:zJc b=l:=by rw[h1,zKl hfn,List.append_nil]
     simp (disch:=omega) [zz,hs2,he]
     (repeat with_reducible refine om ?_)
     refine hE _ _ (by simp) ?_
     simp (disch:=omega) [zz,Tryz.f41,hsn,hq]
    ·have hfr:g9 R=some r:=by unfold g9;rw[if_neg (by omega),←hnf,if_neg hbig,←hr,if_pos he]
     obtain⟨hl1,hl2⟩:=zKq hfr
     have hsr:zJc b=(l++[r])++zJc (R.drop (12+r.length)):=by rw[h1,zL4 hfr];simp
     have hfl:(q5 (l++[r])).length=q+(12+r.length):=by
      have:q5 (l++[r])=q5 l++frame r:=by simp[q5]
      rw[this,List.length_append,zJq,hq]
     have hdd:R.drop (12+r.length)=b.drop (q+(12+r.length)):=by rw[hR,List.drop_drop]
     have hslen:(zz6 l).length=l.length:=zAo l
     simp (disch:=omega) [zz,hs2,he]
     (repeat with_reducible refine om ?_)
     refine zIo (by rw[hslen,show Tryz.prog.bytesOf 9=16 by kernel_rfl];simp;omega) (by rw[hslen];simp;omega) (by kernel_rfl) (by kernel_rfl) fun ver'=>?_
     simp (disch:=omega) [zz]
     refine hN _ (l++[r],some 62) ?_ ⟨by simp only;rw[hfl,←hdd];exact hsr,by simp only;rw[hfl];omega,by simp only[List.length_append,List.length_cons,List.length_nil];rw[hfl];omega⟩ (by simp only;rw[hfl];omega)
     apply Le.of<;>simp[qU,qG,qO,qH,qP,qK,qF,qI,qJ,qN,hfl,zDe,zz6,zIu]<;>try omega
end Go.Proofs.YtcioeonlclpacaaGreatDoor
end
section
set_option maxRecDepth 100000
namespace Go.Proofs.YtcioeonlclpacaaGreatDoor
open Go Go.Ab
open Classical
variable [Sel] [SelPow] [SelErr]
@[simp] theorem zpt:qZ Tryz.prog 6=true:=by kernel_rfl
@[simp] theorem zsO:z8 Tryz.prog (.func 6)=false:=q9 zpt
structure KcS where
 i:Nat
 a:KA
 k:KV
noncomputable def zX5 (L:DbL) (i:Nat):AV:=.agg [if 0<i then qH (getD L (kdI 0)) else .sl .full [],if 1<i then qH (getD L (kdI 1)) else .sl .full [],if 2<i then qH (getD L (kdI 2)) else .sl .full [],if 3<i then qH (getD L (kdI 3)) else .sl .full []]
set_option maxHeartbeats 64000000 in
theorem zVz (l:List zJk) (hl0:l.length≤9223372036854775807) (ho:∀o∈l,zXc o) (b0 b1:Int) (hb0:0≤b0) (hb02:b0<256) (hb1:0≤b1) (hb12:b1<256) (ps:List Int) (hps0:ps.length≤9223372036854775807) :
  PC Tryz.prog 6 [.av (.slice 29) (.sl .no (l.map y3)),.av (.arr 2 5) (.agg [.i .u8 b0,.i .u8 b1]),.av (.slice 3) (zJY ps)] (.av .bool (.b true)):=by
 refine q7.sub (R:=fun r H'=>r=.av .bool (.b true)) ?_ (fun r H' hr _=>⟨[],HSub.of_sub (List.nil_sublist _),hr,rfl⟩)
 have hep:zJY ps=.sl .no (ps.map fun n=>.i .i64 n):=rfl
 refine zov Tryz.func6 cf0 fun imm0 w0=>?_
 simp (disch:=omega) [zz]
 refine qL zN6 rfl rfl (by simp) (by simp[qS]) ?_
 by_cases h4:6<l.length
 ·have h4':(6:Int)<l.length:=by omega
  simp (disch:=omega) [zz,h4',h4,Tryz.f6]
 have h4':¬(6:Int)<l.length:=by omega
 by_cases h20:20<ps.length
 ·have h20':(20:Int)<ps.length:=by omega
  simp (disch:=omega) [zz,h4',h20',hep,Tryz.f6]
 have h20':¬(20:Int)<ps.length:=by omega
 obtain⟨n,hn⟩:∃n:Nat,(n:Int)=1+b0 % 8:=⟨(1+b0 % 8).toNat,by omega⟩
 have htm:b0.tmod 8=b0 % 8:=Int.tmod_eq_emod_of_nonneg hb0
 have hw:IntKind.i64.wrap (1+b0 % 8)=n:=by rw[i64_in (by omega) (by omega)];omega
 have hn1:1≤n:=by omega
 have hn8:n≤8:=by omega
 simp (disch:=omega) [zz,h4',h20',hep,htm,hw,←hn]
 refine qE [] [] (List.Perm.refl _) rfl (by simp[qQ]) (by simp) (R:=fun r H'=>∃B M,M≠B∧r=.av .ptr (.ptr B zJB [])∧H'=j4 B M false zJe) ?_ ?_
 ·simpa[q8.er_nil]using zNl
 rintro r' H' ⟨B,M,hMB,rfl,rfl⟩ _
 refine⟨_,HSub.refl _,?_⟩
 have h0:=zO5 (mo:=n) hn1 hn8
 have hS0:=zWj hn1 hn8
 have hl0:(⟨⟨zJe,false⟩,n,⟨[],[]⟩⟩:KV).j.d.left=-1:=rfl
 obtain⟨k0,hk0⟩:∃k0:KV,k0=⟨⟨zJe,false⟩,n,⟨[],[]⟩⟩:=⟨_,rfl⟩
 rw[←hk0]at h0 hS0 hl0
 simp (disch:=omega) [zz]
 refine zK5 B M hMB false zJe n 0 (by omega) zVO h0 [] (by simp) (by simp[qQ]) (by simp[qS,TV.er,AV.er]) fun K a hka hne=>?_
 simp (disch:=omega) [zz]
 refine AT.loop' (α:=KcS) (fun x=>St.of [(2,.av (.slice 3) (zJY ps)),(8,.av (.int .u8) (.i .u8 b1)),(9,.av (.int .i64) (.i .i64 n)),(10,.av .ptr (.ptr B zJB [])),(11,.av .ptr (.ptr K KpT [])),(63,.av (.slice 29) (.sl .no (l.map y3))),(64,.av (.int .i64) (.i .i64 l.length)),(65,.av (.int .i64) (.i .i64 x.i))] [] (fun _=>0) (kpH K B M x.a x.k))
  (fun x=>x.i≤l.length∧zJL x.a x.k∧KNE K B M x.a∧(∃recs,Std n (1000000*x.i) x.k recs)∧x.k.j.d.left=-1) (fun x=>l.length-x.i) ⟨0,a,k0⟩ ?_ ?_ ?_
 ·apply Le.of<;>simp[qU,qG,qO,qH,qP,qK,qF,qI,qJ,qN,hep]<;>try omega
 ·exact⟨Nat.zero_le _,hka,hne,⟨_,hS0⟩,hl0⟩
 clear hS0 hka hk0 hne h0 hl0
 rintro⟨i,a,k⟩ ⟨hi,hka,hne,⟨recs,hS⟩,hlf⟩ KL hN hE
 simp only at hi hka hne hS hlf hN
 refine qM (cf:=cf0) laid mixed _ _ _ (by kernel_rfl) ?_
 by_cases hlt:i<l.length
 ·have hlt':(i:Int)<l.length:=by omega
  have hgo:=zMg l i hlt
  obtain⟨hox,hok1,hok2⟩:=ho _ (List.getElem_mem hlt)
  obtain⟨o,hoe⟩:∃o,o=l[i]:=⟨_,rfl⟩
  rw[←hoe]at hgo hox hok1 hok2
  have heI:y3 (zWV o)=.agg [.i .u8 o.key,qF o.reads,zU o.outs,.i .u8 0]:=rfl
  obtain⟨v,hv⟩:∃v,v=zWV o:=⟨_,rfl⟩
  have hvo:zLI v:=by rw[hv];exact⟨hox.1,hox.2⟩
  have hvk:v.key=o.key∧v.odd=0∧v.outs=o.outs∧v.reads=o.reads:=by rw[hv];exact⟨rfl,rfl,rfl,rfl⟩
  have hvz:=hvo.2
  have hvl:=zKn v.outs
  have hvd:∀f∈v.outs,f.data.length≤1000000000:=fun f hf=>by have:=zKh hf;omega
  have hve:∀f∈v.outs,f.path.length≤1000000000:=fun f hf=>by have:=zKh hf;omega
  have hvr:∀r∈v.reads,r.path.length≤1000000000:=fun r hr=>by have:=zNG hr;omega
  have hvrl:=zNa v.reads
  have h1k:=zom v (by omega) (by omega) (by omega) hvd hvk.2.1
  have hon:zML v=.tup [(TrT,qK (trO v)),(.slice 36,zU v.outs)]:=rfl
  have hck:=zLw (trO v) ⟨⟨by simp only[trO];omega,fun r hr=>by have:=hvr r hr;omega⟩,⟨by simp only[trO,List.length_map];omega,fun m hm=>by
   obtain⟨f,hf,rfl⟩:=List.mem_map.1 hm
   have:=hve f hf
   simp only[zJF];omega⟩⟩ hvr (fun m hm=>by
   obtain⟨f,hf,rfl⟩:=List.mem_map.1 hm
   exact hve f hf)
  have hgk:=zMI (zN5 v) (zNL hvo)
  simp only[zN5,List.map_cons,List.map_nil,zP9]at hgk
  rw[←hv]at heI
  have hvE:=zKP v
  rw[heI]at h1k hgk hvE
  obtain⟨t,ht⟩:∃t,t=trO v:=⟨_,rfl⟩
  rw[←ht]at hon hck
  simp (disch:=omega) [zz,hlt',hgo,y3]
  refine qL h1k rfl rfl (by simp[qQ]) (by simp[qS,TV.er,AV.er,AV.ers,zdW]) ?_
  simp (disch:=omega) [zz,hon]
  refine qL hck rfl rfl (by simp[qQ]) (by simp[qS,TV.er,AV.er]) ?_
  by_cases hc:zCW t=0
  rotate_left
  ·simp (disch:=omega) [zz,hc]
   refine hE _ _ (by simp) ?_
   simp (disch:=omega) [zz,Tryz.f6]
  simp (disch:=omega) [zz,hc]
  refine qL hgk rfl rfl (by simp[qQ]) (by simp[qS,TV.er,AV.er,AV.ers,zdW]) ?_
  cases hg:zKK [⟨0,0,v,[]⟩]with
  | true =>
   simp (disch:=omega) [zz]
   refine hE _ _ (by simp) ?_
   simp (disch:=omega) [zz,Tryz.f6]
  | false =>
  have hgz:=zM7 hg
  have hwt:=zOq (o:=v) hvo.1 hgz
  have hfit:=zQu hvo.1 (by rw[←ht];exact hc) hgz
  rw[←ht]at hwt hfit
  have hG1:TrG t:=hfit.g
  obtain⟨hz,hS2,hlf2,_⟩:=zW1 hS hlf hfit
  replace hS2:=hS2.up (show _≤1000000*(i+1) by omega)
  simp (disch:=omega) [zz]
  refine zKi K B M a k hka [] (by simp) (zM8 K B M a k (1000000*i) hka hS.inv t hG1.W hG1.1 v.outs (by omega) hvd (by omega)) (by simp) (by simp[qQ]) (by simp[qS,TV.er,AV.er,zdW]) fun a2 hka2 hne2=>?_
  rw[hz]
  obtain⟨k2,hk2⟩:∃k2,k2=(g6 t v.outs k).1:=⟨_,rfl⟩
  rw[←hk2]at hka2 hS2 hlf2 ⊢
  simp (disch:=omega) [zz]
  refine hN _ ⟨i+1,a2,k2⟩ ?_ ⟨by simp only;omega,hka2,hne2,⟨_,hS2⟩,hlf2⟩ (by simp only;omega)
  apply Le.of<;>simp[qU,qG,qO,qH,qP,qK,qF,qI,qJ,qN,hep]<;>try omega
 have hlt':¬(i:Int)<l.length:=by omega
 simp (disch:=omega) [zz,hlt']
 refine hE _ _ (by simp) ?_
 clear hE hN
 have hN6:1000000*i≤6000000:=by omega
 simp (disch:=omega) [zz]
 obtain⟨BE,hBE⟩:∃BE,BE=zX5 k.M.L:=⟨_,rfl⟩
 refine AT.loop' (α:=Nat) (fun j=>St.of [(2,.av (.slice 3) (zJY ps)),(8,.av (.int .u8) (.i .u8 b1)),(9,.av (.int .i64) (.i .i64 n)),(10,.av .ptr (.ptr B zJB [])),(11,.av .ptr (.ptr K KpT [])),(17,.loc 17 []),(90,.av (.int .i64) (.i .i64 j))] [(17,(.arr 4 55,BE j))] (fun _=>0) (kpH K B M a k))
  (fun j=>j≤4) (fun j=>4-j) 0 ?_ ?_ ?_
 ·apply Le.of<;>simp[qU,qG,qO,qH,qP,qK,qF,qI,qJ,qN,hep,hBE,zX5]<;>try omega
 ·simp
 rintro j hj KL hN hE
 refine qM (cf:=cf0) laid mixed _ _ _ (by kernel_rfl) ?_
 by_cases hj4:j<4
 ·have hj4':(j:Int)<4:=by omega
  have hkt:=zMa K B M a k hka (kdI j)
  have hke:=zS2 (j:Int) (by omega) (by omega)
  simp only[List.reduceReplicate]at hke
  have hw8:IntKind.u8.wrap (j:Int)=j:=zPY (by omega)
  have hnx:BE (j+1)=.agg ((match BE j with|.agg l=>l|_=>[]).set j (qH (getD k.M.L (kdI j)))):=by
   rw[hBE]
   rcases(by omega:j=0∨j=1∨j=2∨j=3)with rfl|rfl|rfl|rfl<;>simp[zX5]
  obtain⟨q,hq⟩:∃q,q=kdI (j:Int):=⟨_,rfl⟩
  rw[←hq]at hkt hke hnx
  obtain⟨X,hX⟩:∃X,BE j=.agg X∧X.length=4:=by rw[hBE];exact⟨_,rfl,rfl⟩
  rw[hX.1]at hnx ⊢
  simp only at hnx
  have hXl:=hX.2
  simp (disch:=omega) [zz,hj4',hw8,hke]
  refine zJH K B M a k hka [] (by simp) hkt (by simp) (by simp[qQ]) (by simp[qS,TV.er,AV.er]) ?_
  simp (disch:=omega) [zz,hXl,hj4,hj4']
  refine hN _ (j+1) ?_ (by omega) (by omega)
  apply Le.of<;>simp[qU,qG,qO,qH,qP,qK,qF,qI,qJ,qN,hep,hnx]<;>try omega
 have hje:j=4:=by omega
 subst hje
 simp (disch:=omega) [zz]
 refine hE _ _ (by simp) ?_
 clear hE hN
 have hb8:b1.tmod 6=b1 % 6:=Int.tmod_eq_emod_of_nonneg hb1
 have hS1:=zW7 hS (b:=b1 % 6) (by omega)
 have hkaB:zJL a ⟨⟨zJs (b1 % 6) k.j.d,k.j.br⟩,k.mo,k.M⟩:=⟨hka.cels,hka.abs⟩
 obtain⟨kBaa,hkB⟩:∃kBaa:KV,kBaa=⟨⟨zJs (b1 % 6) k.j.d,k.j.br⟩,k.mo,k.M⟩:=⟨_,rfl⟩
 have hkBM:kBaa.M=k.M:=by rw[hkB]
 simp (disch:=omega) [zz,hb8]
 refine qE (j4 B M a.o k.j.d) _ (zOM K B M a k) rfl (by simp[qQ]) (by simp) (R:=fun r H'=>r=.tup []∧H'=j4 B M a.o (zJs (b1 % 6) k.j.d)) ?_ ?_
 ·rw[zKy]
  exact q7.args (zOb B M hne.MB a.o k.j.d (b1 % 6)) (by simp[qS,TV.er,AV.er])
 rintro r' H' ⟨rfl,rfl⟩ _
 refine⟨kpH K B M a ⟨⟨zJs (b1 % 6) k.j.d,k.j.br⟩,k.mo,k.M⟩,HSub.of_perm (zOM K B M a ⟨⟨zJs (b1 % 6) k.j.d,k.j.br⟩,k.mo,k.M⟩).symm,?_⟩
 rw[←hkB]at hkaB hS1 ⊢
 obtain⟨k2,recs2,ho2,hS2,hl2,hsame2⟩:=zVX hn1 hn8 (by omega) hS1 ps
 have hcI:=(zV2 hS1.inv).1
 have hkc:=zV1 K B M a kBaa (1000000*i) hkaB hS1.inv (by omega)
 simp (disch:=omega) [zz]
 refine zKi K B M a kBaa hkaB [] (by simp) hkc (by simp) (by simp[qQ]) (by simp[qS,TV.er,AV.er]) fun a3 hka3 hne3=>?_
 obtain⟨k3,hk3⟩:∃k3,k3=(zUW kBaa).1:=⟨_,rfl⟩
 rw[←hk3]at hka3 hcI ho2 ⊢
 have hIm:=hcI.m
 have hIn:=hcI.n
 simp (disch:=omega) [zz]
 refine zLD B M hne3.MB a3.o k3.j.d hcI.ok ⟨by omega,by omega⟩ ps (by omega) _ (zOM K B M a3 k3) (by simp[qQ]) (by simp[qS,TV.er,AV.er,zQk]) fun B2 M2 o2 hMB2=>?_
 simp (disch:=omega) [zz]
 refine zK5 B2 M2 hMB2 o2 (zJh ps k3.j.d) n (1000000*i) (by omega) (hcI.of.crash ps) ho2 [] (by simp) (by simp[qQ]) (by simp[qS,TV.er,AV.er]) fun K2 a2 hka2 hne2=>?_
 obtain⟨T4,hT4⟩:∃T4:Nat→List zaP,T4=fun j:Nat=>getD k.M.L (kdI (j:Int)):=⟨_,rfl⟩
 have hBE4:BE 4=.agg [qH (T4 0),qH (T4 1),qH (T4 2),qH (T4 3)]:=by rw[hBE,hT4];rfl
 have hX4:∀j,j<4→[qH (T4 0),qH (T4 1),qH (T4 2),qH (T4 3)][j]?=some (qH (T4 j)):=by
  intro j hj
  rcases(by omega:j=0∨j=1∨j=2∨j=3)with rfl|rfl|rfl|rfl<;>rfl
 have hsm2:∀q,getD k2.M.L q=getD k.M.L q:=fun q=>by rw[hsame2 q,hkBM]
 have hT4l:∀j,(T4 j).length≤8:=fun j=>by rw[hT4];show (getD k.M.L (kdI (j:Int))).length≤8;have:=hS.inv.mem.row (kdI j);have:=hS.mo;omega
 obtain⟨X4aa,hX4e⟩:∃X4aa,X4aa=[qH (T4 0),qH (T4 1),qH (T4 2),qH (T4 3)]:=⟨_,rfl⟩
 rw[←hX4e]at hBE4 hX4
 have hX4l:X4aa.length=4:=by rw[hX4e];rfl
 rw[hBE4]
 simp (disch:=omega) [zz]
 refine AT.loop' (α:=Nat) (fun j=>St.of [(17,.loc 17 []),(19,.av .ptr (.ptr B2 zJB [])),(20,.av .ptr (.ptr K2 KpT [])),(119,.av (.arr 4 55) (.agg X4aa)),(120,.av (.int .i64) (.i .i64 j))] [(17,(.arr 4 55,.agg X4aa))] (fun _=>0) (kpH K2 B2 M2 a2 k2))
  (fun j=>j≤4) (fun j=>4-j) 0 ?_ ?_ ?_
 ·apply Le.of<;>simp[qU,qG,qO,qH,qP,qK,qF,qI,qJ,qN,]<;>try omega
 ·simp
 rintro j hj KL hN hE
 refine qM (cf:=cf0) laid mixed _ _ _ (by kernel_rfl) ?_
 by_cases hj4:j<4
 ·have hj4':(j:Int)<4:=by omega
  have hkt:=zMa K2 B2 M2 a2 k2 hka2 (kdI j)
  have hke:=zS2 (j:Int) (by omega) (by omega)
  simp only[List.reduceReplicate]at hke
  have hw8:IntKind.u8.wrap (j:Int)=j:=zPY (by omega)
  have hxj:X4aa[j]'(by omega)=qH (T4 j):=by have:=hX4 j hj4;rw[List.getElem?_eq_getElem (by omega)]at this;exact Option.some.inj this
  have htl:=hT4l j
  have htd:getD k2.M.L (kdI j)=T4 j:=by rw[hsm2,hT4]
  obtain⟨q,hq⟩:∃q,q=kdI (j:Int):=⟨_,rfl⟩
  rw[←hq]at hkt hke htd
  have htok:=zVD hS2.inv.mem q
  rw[htd]at hkt htok
  have hfound:∀t∈T4 j,∀m∈t.outs,∃s,k2.M.bl.find? (fun p=>decide (p.1=m.sum))=some (m.sum,s)∧sha s=m.sum∧s.length≤1000000*i:=fun t ht m hm=>zWp hS2 (q:=q) (by rw[htd];exact ht) hm
  obtain⟨T,hT⟩:∃T,T=T4 j:=⟨_,rfl⟩
  rw[←hT]at hkt htok hfound hxj htl
  have hsm:=zVF T T htok htok (by omega) (by omega)
  have hte:=zc2 T
  have hte2:qH T=.sl .no (trs T):=rfl
  have htll:(trs T).length=T.length:=zL1 T
  simp (disch:=omega) [zz,hj4',hw8,hke,hxj]
  refine zJH K2 B2 M2 a2 k2 hka2 [] (by simp) hkt (by simp) (by simp[qQ]) (by simp[qS,TV.er,AV.er]) ?_
  simp (disch:=omega) [zz]
  refine qL hsm rfl rfl (by simp[qQ]) (by simp[qS,TV.er,hte]) ?_
  rw[hte2]
  simp (disch:=omega) [zz,htll]
  refine AT.loop' (α:=Nat) (fun i2=>St.of [(17,.loc 17 []),(19,.av .ptr (.ptr B2 zJB [])),(20,.av .ptr (.ptr K2 KpT [])),(119,.av (.arr 4 55) (.agg X4aa)),(120,.av (.int .i64) (.i .i64 j)),(132,.av (.slice 49) (.sl .no (trs T))),(133,.av (.int .i64) (.i .i64 T.length)),(134,.av (.int .i64) (.i .i64 i2))] [(17,(.arr 4 55,.agg X4aa))] (fun _=>0) (kpH K2 B2 M2 a2 k2))
   (fun i2=>i2≤T.length) (fun i2=>T.length-i2) 0 ?_ ?_ ?_
  ·apply Le.of<;>simp[qU,qG,qO,qH,qP,qK,qF,qI,qJ,qN,hte2]<;>try omega
  ·simp
  rintro i2 hi2 KL2 hN2 hE2
  refine qM (cf:=cf0) laid mixed _ _ _ (by kernel_rfl) ?_
  by_cases hlt2:i2<T.length
  rotate_left
  ·have hlt2':¬(i2:Int)<T.length:=by omega
   simp (disch:=omega) [zz,hlt2']
   refine hE2 _ _ (by simp) ?_
   simp (disch:=omega) [zz]
   refine hN _ (j+1) ?_ (by omega) (by omega)
   apply Le.of<;>simp[qU,qG,qO,qH,qP,qK,qF,qI,qJ,qN,]<;>try omega
  have hlt2':(i2:Int)<T.length:=by omega
  have hgt:(trs T)[i2]'(by omega)=qK T[i2]:=by simp[trs]
  have hft:=hfound _ (List.getElem_mem hlt2)
  obtain⟨t,ht⟩:∃t,t=T[i2]:=⟨_,rfl⟩
  have htol:=(htok _ (List.getElem_mem hlt2)).2
  rw[←ht]at hgt hft htol
  have hmt:qJ t.outs=.sl .no (t.outs.map qN):=rfl
  simp (disch:=omega) [zz,hlt2',hgt,htll,hlt2,qK,hmt]
  refine AT.loop' (α:=Nat) (fun i3=>St.of [(17,.loc 17 []),(19,.av .ptr (.ptr B2 zJB [])),(20,.av .ptr (.ptr K2 KpT [])),(119,.av (.arr 4 55) (.agg X4aa)),(120,.av (.int .i64) (.i .i64 j)),(132,.av (.slice 49) (.sl .no (trs T))),(133,.av (.int .i64) (.i .i64 T.length)),(134,.av (.int .i64) (.i .i64 i2)),(139,.av (.slice 95) (.sl .no (t.outs.map qN))),(140,.av (.int .i64) (.i .i64 t.outs.length)),(141,.av (.int .i64) (.i .i64 i3))] [(17,(.arr 4 55,.agg X4aa))] (fun _=>0) (kpH K2 B2 M2 a2 k2))
   (fun i3=>i3≤t.outs.length) (fun i3=>t.outs.length-i3) 0 ?_ ?_ ?_
  ·apply Le.of<;>simp[qU,qG,qO,qH,qP,qK,qF,qI,qJ,qN,hmt]<;>try omega
  ·simp
  rintro i3 hi3 KL3 hN3 hE3
  refine qM (cf:=cf0) laid mixed _ _ _ (by kernel_rfl) ?_
  by_cases hlt3:i3<t.outs.length
  rotate_left
  ·have hlt3':¬(i3:Int)<t.outs.length:=by omega
   simp (disch:=omega) [zz,hlt3']
   refine hE3 _ _ (by simp) ?_
   simp (disch:=omega) [zz]
   refine hN2 _ (i2+1) ?_ (by omega) (by omega)
   apply Le.of<;>simp[qU,qG,qO,qH,qP,qK,qF,qI,qJ,qN,]<;>try omega
  have hlt3':(i3:Int)<t.outs.length:=by omega
  have hgm:=zMO t.outs i3 hlt3
  obtain⟨s,hs1,hs2,hs3⟩:=hft _ (List.getElem_mem hlt3)
  obtain⟨m,hm⟩:∃m,m=t.outs[i3]:=⟨_,rfl⟩
  rw[←hm]at hgm hs1 hs2
  have hbl:=zMZ K2 B2 M2 a2 k2 hka2 hne2.TS m.sum
  have hhb:zJl m.sum k2.M.bl=true:=by unfold zJl;rw[hs1];rfl
  rw[hs1,hhb]at hbl
  have hsum:=zNr s (by omega)
  rw[hs2]at hsum
  simp (disch:=omega) [zz,hlt3',hgm,qN]
  refine zJH K2 B2 M2 a2 k2 hka2 [] (by simp) hbl (by simp) (by simp[qQ]) (by simp[qS,TV.er,AV.er]) ?_
  simp (disch:=omega) [zz]
  (repeat with_reducible refine om ?_)
  refine jC hsum rfl rfl (by simp) (by simp[qS,TV.er,AV.er]) ?_
  simp (disch:=omega) [zz]
  (repeat with_reducible refine om ?_)
  refine hN3 _ (i3+1) ?_ (by omega) (by omega)
  apply Le.of<;>simp[qU,qG,qO,qH,qP,qK,qF,qI,qJ,qN,]<;>try omega
 have hje:j=4:=by omega
 subst hje
 simp (disch:=omega) [zz]
 refine hE _ _ (by simp) ?_
 clear hE hN
 obtain⟨hc4,hM4,hl4,hd4,hS4⟩:=zV0 (by omega) hS2 hl2
 have hkc4:=zV1 K2 B2 M2 a2 k2 (1000000*i) hka2 hS2.inv (by omega)
 simp (disch:=omega) [zz]
 refine zKi K2 B2 M2 a2 k2 hka2 [] (by simp) hkc4 (by simp) (by simp[qQ]) (by simp[qS,TV.er,AV.er]) fun a4 hka4 hne4=>?_
 rw[hc4]
 have hrec:=zWL hS2
 obtain⟨k4,hk4⟩:∃k4,k4=(zUW k2).1:=⟨_,rfl⟩
 rw[←hk4]at hka4 hM4 hl4 hd4 hS4 ⊢
 obtain⟨hc5,hM5,hl5,hd5,hS5⟩:=zV0 (by omega) hS4 hl4
 have hkc5:=zV1 K2 B2 M2 a4 k4 (1000000*i) hka4 hS4.inv (by omega)
 rw[hM4,hrec]at hd5
 obtain⟨F,hF⟩:∃F,F=q5 (zO2 k2.M).2:=⟨_,rfl⟩
 rw[←hF]at hd4 hd5
 have hdr4:=zR8 B2 M2 hne4.MB a4.o false k4.j.d
 rw[show g5 false k4.j.d=k4.j.d.m from rfl,hd4]at hdr4
 simp (disch:=omega) [zz]
 refine qE (j4 B2 M2 a4.o k4.j.d) _ (zOM K2 B2 M2 a4 k4) rfl (by simp[qQ]) (by simp) (R:=fun r H'=>r=.tup [(.str,.s F),(.int .i64,.i .i64 (if k4.j.d.m=none then 10 else 0))]∧H'=j4 B2 M2 a4.o k4.j.d) ?_ ?_
 ·rw[zKy]
  exact q7.args hdr4 (by simp[qS,TV.er,AV.er,nmB,nmK])
 rintro r' H' ⟨rfl,rfl⟩ _
 refine⟨kpH K2 B2 M2 a4 k4,HSub.of_perm (zOM K2 B2 M2 a4 k4).symm,?_⟩
 simp (disch:=omega) [zz]
 refine zKi K2 B2 M2 a4 k4 hka4 [] (by simp) hkc5 (by simp) (by simp[qQ]) (by simp[qS,TV.er,AV.er]) fun a5 hka5 hne5=>?_
 rw[hc5]
 obtain⟨k5aa,hk5⟩:∃k5aa,k5aa=(zUW k4).1:=⟨_,rfl⟩
 rw[←hk5]at hka5 hd5 ⊢
 have hdr5:=zR8 B2 M2 hne5.MB a5.o false k5aa.j.d
 rw[show g5 false k5aa.j.d=k5aa.j.d.m from rfl,hd5]at hdr5
 simp (disch:=omega) [zz]
 refine qE (j4 B2 M2 a5.o k5aa.j.d) _ (zOM K2 B2 M2 a5 k5aa) rfl (by simp[qQ]) (by simp) (R:=fun r H'=>r=.tup [(.str,.s F),(.int .i64,.i .i64 (if k5aa.j.d.m=none then 10 else 0))]∧H'=j4 B2 M2 a5.o k5aa.j.d) ?_ ?_
 ·rw[zKy]
  exact q7.args hdr5 (by simp[qS,TV.er,AV.er,nmB,nmK])
 rintro r' H' ⟨rfl,rfl⟩ _
 refine⟨kpH K2 B2 M2 a5 k5aa,HSub.of_perm (zOM K2 B2 M2 a5 k5aa).symm,?_⟩
 have hsc:=zMT hS4.small
 have hwr:=zVd hS2.inv.mem
 have hFl:F.length=wtR (zO2 k2.M).2:=by rw[hF,zLW]
 have hrs:=zWB F (by omega)
 rw[hF,hsc,←hF]at hrs
 have hlen:=zWN hS2.inv.mem.ok (kdI 0)
 have hl0T:(getD k2.M.L (kdI 0))=T4 0:=by rw[hsm2,hT4];rfl
 rw[hl0T]at hlen
 have hX0:X4aa[0]'(by omega)=qH (T4 0):=by have:=hX4 0 (by omega);rw[List.getElem?_eq_getElem (by omega)]at this;exact Option.some.inj this
 have hte0:qH (T4 0)=.sl .no (trs (T4 0)):=rfl
 rw[hte0]at hX0
 have htl0:(trs (T4 0)).length=(T4 0).length:=zL1 _
 have hslen:∀l:List (List UInt8),(zz6 l).length=l.length:=zAo
 have hgeq:((T4 0).length:Int)≤((zO2 k2.M).2.length:Int):=by omega
 simp (disch:=omega) [zz]
 refine qL hrs rfl rfl (by simp[qQ]) (by simp[qS,TV.er,AV.er]) ?_
 simp (disch:=omega) [zz,hX0,htl0,hslen,hgeq,Tryz.f6]
end Go.Proofs.YtcioeonlclpacaaGreatDoor
end
