/- A journal's frames: the program. No condition. -/
import Derived.Test.YtognnffjdckalaaGreatDoorKR1ToSH2
set_option linter.unusedSimpArgs false
set_option linter.unusedVariables false
set_option linter.unusedSectionVars false
set_option maxHeartbeats 64000000
set_option maxRecDepth 100000
namespace Go.Proofs.YtognnffjdckalaaGreatDoor
open Go Go.Ab
open Classical
section
variable [Sel] [SelPow]
def zl7 (B:Nat) (p l:List UInt8):Nat->q7->Prop
 | 0,H=>H=[(B,Q8 B h8 .nsl 0)]
 | 1,H=>gN B p H
 | _,H=>H=zG B (jT (p++l) ((p++l).length / 64)) (jB ((p++l).drop (64*((p++l).length / 64)))) (p++l).length
theorem za9 (B:Nat) (s:List UInt32) (n:Nat) {op:AV} (h:op.erk=op):(Q8 B s op n).er=Q8 B s op n:=by
 have hew:AV.erks (s.map zZ)=s.map zZ:=by simp[AV.erks_eq,Function.comp_def,AV.erk]
 simp only[Q8,HObj.er_var,AV.erk,AV.erks,hew,h]
theorem gN.er {B:Nat} {l:List UInt8} {H:q7} (h:gN B l H):H.er=H:=by
 obtain⟨b,cap,hb,hc,hp⟩:=h
 have e:∀p∈H,(p.1,p.2.er)=p:=by
  intro p hpm
  have:=hp.mem_iff.1 hpm
  simp only[List.mem_cons,List.not_mem_nil,or_false]at this
  rcases this with rfl|rfl
  ·exact congrArg (Prod.mk B) (za9 B h8 _ rfl)
  ·exact congrArg (Prod.mk b) (zmx cap l _)
 unfold q7.er
 exact(List.map_congr_left e).trans (List.map_id _)
theorem zoZ (p l:List UInt8) (h0:0<p.length) (hp:p.length<64) (hl:l.length<=100000000000):PC Tryz.prog 91 [.av (.slice 9) (.sl .no [.s p,.s l])] (.av (q8 Tryz.prog 53) (qK (sha (p++l)))):=by
 have hbe:∀x,jB x=.sl .no (x.map kH):=fun _=>rfl
 obtain⟨t,ht⟩:∃t,t=p++l:=⟨_,rfl⟩
 have htl:t.length=p.length+l.length:=by rw[ht];simp
 refine zow Tryz.func91 cf0 fun imm0 w0=>?_
 simp (disch:=omega) [zz]
 refine zF (R:=fun r H'=>∃B,r=.av .ptr (.ptr B J9 [])/\H'=[(B,Q8 B h8 .nsl 0)]) rfl (by simp[qH]) (by simp) ?_ ?_
 ·simpa[q7.er_nil]using zk0
 rintro r H' ⟨B,rfl,rfl⟩
 simp (disch:=omega) [zz]
 refine AT.loopV (α:=Nat × q7) (fun x ver=>St.of [(2,.loc 2 []),(3,.av .ptr (.ptr B J9 [])),(7,.av (.slice 9) (.sl .no [.s p,.s l])),(8,.av (.int .i64) (.i .i64 2)),(9,.av (.int .i64) (.i .i64 x.1))] [(2,(q8 Tryz.prog 53,.agg (List.replicate 32 (.i .u8 0))))] ver x.2)
  (fun x=>x.1<=2/\zl7 B p l x.1 x.2) (fun x=>2-x.1) (0,[(B,Q8 B h8 .nsl 0)]) ?_ ?_ ?_
 ·apply Le.of<;>simp[le9]<;>try omega
 ·exact⟨by simp,rfl⟩
 rintro⟨k,H⟩ ver ⟨hk,hH⟩ KL hN hE
 simp only at hk hH hN
 refine zrd cf0 ?_
 match k,hk,hH with
 | 0,_,hH =>
  simp only[zl7]at hH
  subst hH
  simp (disch:=omega) [zz]
  refine zF (R:=fun r H'=>r=.tup []/\gN B p H') rfl (by simp[qH]) (by simp) ?_ ?_
  ·have:=zk9 B p h0 hp
   rw[q7.er_cons,za9 B h8 0 rfl]
   simpa[TV.er,AV.er,q7.er_nil]using this
  rintro r H' ⟨rfl,hR⟩
  simp (disch:=omega) [zz]
  refine hN _ (1,H') ?_ ⟨by simp,hR⟩ (by simp)
  apply Le.of<;>simp[le9]<;>try omega
 | 1,_,hH =>
  have her:=gN.er hH
  obtain⟨b,cap,hb,hc,hpm⟩:=hH
  have h2:=zkD B b cap hb p l h0 hp hc (by omega)
  obtain⟨HO,hHO⟩:∃HO,HO=zG B (jT (p++l) ((p++l).length / 64)) (jB ((p++l).drop (64*((p++l).length / 64)))) (p++l).length:=⟨_,rfl⟩
  rw[<-hHO]at h2
  simp (disch:=omega) [zz]
  refine qM (R:=fun r H'=>r=.tup []/\H'=HO) [(B,Q8 B h8 (.msl b 5 0 p.length cap) p.length),(b,u8O cap p (cap-p.length))] [] (by simpa using hpm) rfl (by simp[qH]) (by simp) ?_ ?_
  ·rw[q7.er_cons,q7.er_cons,za9 B h8 _ rfl,zmx]
   simpa[TV.er,AV.er,q7.er_nil]using h2
  rintro r H' ⟨rfl,rfl⟩ _
  refine⟨_,HSub.refl _,?_⟩
  simp (disch:=omega) [zz]
  refine hN _ (2,_) ?_ ⟨by simp,hHO⟩ (by simp)
  apply Le.of<;>simp[le9]<;>try omega
 | 2,_,hH =>
  simp only[zl7]at hH
  subst hH
  rw[<-ht]
  simp (disch:=omega) [zz]
  refine hE _ _ (by simp) ?_
  simp (disch:=omega) [zz]
  refine zF (R:=fun r H'=>r=.av (q8 Tryz.prog 53) (qK (sha t))/\H'=zG B (jT t (t.length / 64)) (jB (t.drop (64*(t.length / 64)))) t.length) rfl (by simp[qH]) (by simp) ?_ ?_
  ·have:=zj8 B (jT t (t.length / 64)) (t.drop (64*(t.length / 64))) t.length (WJ t _) (by simp;omega) (by omega)
   rw[zcC]at this
   simpa[zG,TV.er,AV.er,AV.ers_eq,AV.erk,AV.erks,AV.erks_eq,q7.er_cons,q7.er_nil,HObj.er_var,Function.comp_def,Tok.k]using this
  ·rintro r H' ⟨rfl,rfl⟩
   simp (disch:=omega) [zz,Tryz.f91,ht]
theorem w8 (n c:Nat):IntKind.u8.wrap ((n:Int) / (c:Int))=((UInt8.ofNat (n / c)).toNat:Int):=by rw[<-Int.natCast_ediv];exact zb0 _
theorem w80 (n:Nat):UInt8.ofNat ((n:Int) % 256).toNat=UInt8.ofNat n:=by
 have e:((n:Int) % 256).toNat=n % 256:=by omega
 rw[e]
 apply UInt8.toNat_inj.1
 simp
theorem w81 (n c:Nat):UInt8.ofNat ((n:Int) / (c:Int) % 256).toNat=UInt8.ofNat (n / c):=by rw[<-Int.natCast_ediv];exact w80 _
theorem w82 (n:Nat):UInt8.ofNat (IntKind.u8.wrap (n:Int)).toNat=UInt8.ofNat n:=by rw[zb0,Int.toNat_natCast,UInt8.ofNat_toNat]
abbrev ztd:Cfg:=⟨fun n=>n==5,fun _=>false⟩
theorem fdv (n k:Nat) (hk:k<=24):((n:Int).fdiv (2 ^ min k IntKind.i64.bits))=(n:Int) / ((2 ^ k:Nat):Int):=by
 have e:min k IntKind.i64.bits=k:=Nat.min_eq_left (Nat.le_trans hk (by decide))
 have e2:((2:Int) ^ k)=((2 ^ k:Nat):Int):=by simp
 rw[e,e2,Int.fdiv_eq_ediv_of_nonneg _ (Int.natCast_nonneg _)]
theorem zaG (r:List UInt8) (hr:r.length<=10000000000):PC Tryz.prog 150 [.av .str (.s r)] (.av .str (.s (U4 r))):=by
 have f1:=fdv r.length 24 (by omega)
 have f2:=fdv r.length 16 (by omega)
 have f3:=fdv r.length 8 (by omega)
 have g1:IntKind.u8.wrap ((r.length:Int) / 16777216)=((UInt8.ofNat (r.length / 16777216)).toNat:Int):=w8 _ 16777216
 have g2:IntKind.u8.wrap ((r.length:Int) / 65536)=((UInt8.ofNat (r.length / 65536)).toNat:Int):=w8 _ 65536
 have g3:IntKind.u8.wrap ((r.length:Int) / 256)=((UInt8.ofNat (r.length / 256)).toNat:Int):=w8 _ 256
 have h4:(be4 r.length).length=4:=rfl
 have hsl:(sha (be4 r.length++r)).length=32:=QE _
 have hs2:=zoZ (be4 r.length) r (by omega) (by omega) (by omega)
 have hbe:∀l:List UInt8,bytesOf (l.map fun b=>AV.i .u8 b.toNat)=some l:=u9
 obtain⟨S,hS⟩:∃S,S=sha (be4 r.length++r):=⟨_,rfl⟩
 have hh:U4 r=be4 r.length++S.take 8:=by rw[hS];rfl
 rw[<-hS]at hs2 hsl
 rw[hh]
 have htk:(S.map fun b=>AV.i .u8 b.toNat).take 8=(S.take 8).map fun b=>AV.i .u8 b.toNat:=by rw[List.map_take]
 have k1:UInt8.ofNat ((r.length:Int) / 16777216 % 256).toNat=UInt8.ofNat (r.length / 16777216):=w81 _ 16777216
 have k2:UInt8.ofNat ((r.length:Int) / 65536 % 256).toNat=UInt8.ofNat (r.length / 65536):=w81 _ 65536
 have k3:UInt8.ofNat ((r.length:Int) / 256 % 256).toNat=UInt8.ofNat (r.length / 256):=w81 _ 256
 refine zow Tryz.func150 ztd fun imm0 w0=>?_
 simp (disch:=omega) [zz,f1,f2,f3,g1,g2,g3,w80]
 refine YE hs2 rfl rfl (by simp) (by simp[q9,TV.er,AV.er,AV.ers,be4,w80,w82,g1,g2,g3,k1,k2,k3]) ?_
 simp (disch:=omega) [zz]
 intro b
 have hE:qK S=.agg (S.map fun b=>.i .u8 b.toNat):=rfl
 rw[hE]
 dsimp only
 rw[htk,hbe]
 have hl8:(S.take 8).length=8:=by rw[List.length_take];omega
 obtain⟨q,hq⟩:∃q,q=S.take 8:=⟨_,rfl⟩
 rw[<-hq]at hl8 |-
 dsimp only
 have hb4:be4 r.length=[UInt8.ofNat (r.length / 16777216),UInt8.ofNat (r.length / 65536),UInt8.ofNat (r.length / 256),UInt8.ofNat r.length]:=rfl
 simp (disch:=omega) [zz,Tryz.f150,hb4,hl8]
 exact⟨k1,k2,k3,w82 _⟩
theorem zfu (r:List UInt8) (hr:r.length<=10000000000):PC Tryz.prog 92 [.av .str (.s r)] (.tup [(.str,.s (if 1048576<r.length then [] else frame r)),(.int .i64,.i .i64 (if 1048576<r.length then 6 else 0))]):=by
 have hh:=zaG r hr
 have hl:=pY r
 refine zow Tryz.func92 cf0 fun imm0 w0=>?_
 by_cases h:1048576<r.length
 ·have h':(1048576:Int)<r.length:=by omega
  simp (disch:=omega) [zz,h,h',Tryz.f92]
 ·have h':¬(1048576:Int)<r.length:=by omega
  simp (disch:=omega) [zz,h,h']
  refine zcv hh ?_
  simp (disch:=omega) [zz,hl,Tryz.f92,frame,h]
  omega
theorem orI (x y k:Nat) (hx:2 ^ k*(x / 2 ^ k)=x) (hy:y<2 ^ k) (hxy:x+y<=9223372036854775807):IntKind.i64.wrap ((((x:Int) % 2 ^ IntKind.i64.bits).toNat ||| ((y:Int) % 2 ^ IntKind.i64.bits).toNat:Nat):Int)=((x+y:Nat):Int):=by
 have e:IntKind.i64.bits=64:=rfl
 have e1:((x:Int) % 2 ^ IntKind.i64.bits).toNat=x:=by rw[e];omega
 have e2:((y:Int) % 2 ^ IntKind.i64.bits).toNat=y:=by rw[e];omega
 rw[e1,e2]
 have e3:=Nat.two_pow_add_eq_or_of_lt hy (x / 2 ^ k)
 rw[hx]at e3
 rw[<-e3,i64_in (by omega) (by omega)]
theorem shI (x k c:Nat) (hk:min k IntKind.i64.bits=k) (hc:2 ^ k=c) (h:x*c<=9223372036854775807):IntKind.i64.wrap ((x:Int)*2 ^ min k IntKind.i64.bits)=((x*c:Nat):Int):=by
 have e2:((2:Int) ^ k)=((c:Nat):Int):=by rw[<-hc];simp
 rw[hk,e2,<-Int.natCast_mul,i64_in (by omega) (by omega)]
theorem zqh {b:List UInt8} {b0 b1 b2 b3:UInt8} (h:4<=b.length) (h0:b[0]?=some b0) (h1:b[1]?=some b1) (h2:b[2]?=some b2) (h3:b[3]?=some b3):b.take 4=[b0,b1,b2,b3]:=by
 match b,h with
 | x0::x1::x2::x3::R,_=>simp_all
def zhk (b:List UInt8):List UInt8:=if b.length<12 then [] else if 1048576<uS (b.take 4)\/b.length-12<uS (b.take 4) then [] else(b.drop 12).take (uS (b.take 4))
theorem zfN {b r:List UInt8} (h:jY b=some r):zhk b=r:=by
 unfold jY at h
 unfold zhk
 split at h
 ·cases h
 rename_i h1
 rw[if_neg h1]
 split at h
 ·cases h
 rename_i h2
 rw[if_neg h2]
 split at h
 ·exact Option.some.inj h
 ·cases h
theorem zmX (b:List UInt8) (hb:b.length<=1000000000):PC Tryz.prog 125 [.av .str (.s b)] (.tup [(.str,.s (if b.length<12 then [] else if 1048576<uS (b.take 4)\/b.length-12<uS (b.take 4) then [] else(b.drop 12).take (uS (b.take 4)))),(.bool,.b (jY b).isSome)]):=by
 refine zow Tryz.func125 cf0 fun imm0 w0=>?_
 by_cases h12:b.length<12
 ·have h12':(b.length:Int)<12:=by omega
  have hf:jY b=none:=by unfold jY;rw[if_pos h12]
  simp (disch:=omega) [zz,h12,h12',hf,Tryz.f125]
 have h12':¬(b.length:Int)<12:=by omega
 have q0:0<b.length:=by omega
 obtain⟨b0,g0⟩:∃x,b[0]=x:=⟨_,rfl⟩
 have q1:1<b.length:=by omega
 obtain⟨b1,g1⟩:∃x,b[1]=x:=⟨_,rfl⟩
 have q2:2<b.length:=by omega
 obtain⟨b2,g2⟩:∃x,b[2]=x:=⟨_,rfl⟩
 have q3:3<b.length:=by omega
 obtain⟨b3,g3⟩:∃x,b[3]=x:=⟨_,rfl⟩
 have ht4:=zqh (b:=b) (b0:=b0) (b1:=b1) (b2:=b2) (b3:=b3) (by omega) (by rw[List.getElem?_eq_getElem q0,g0]) (by rw[List.getElem?_eq_getElem q1,g1]) (by rw[List.getElem?_eq_getElem q2,g2]) (by rw[List.getElem?_eq_getElem q3,g3])
 have u0:=UInt8.toNat_lt b0
 have u1:=UInt8.toNat_lt b1
 have u2:=UInt8.toNat_lt b2
 have u3:=UInt8.toNat_lt b3
 have c0:=i64_in (n:=(b0.toNat:Int)) (by omega) (by omega)
 have c1:=i64_in (n:=(b1.toNat:Int)) (by omega) (by omega)
 have c2:=i64_in (n:=(b2.toNat:Int)) (by omega) (by omega)
 have c3:=i64_in (n:=(b3.toNat:Int)) (by omega) (by omega)
 have s0:=shI b0.toNat 24 16777216 rfl rfl (by omega)
 have s1:=shI b1.toNat 16 65536 rfl rfl (by omega)
 have s2:=shI b2.toNat 8 256 rfl rfl (by omega)
 have o1:=orI (b0.toNat*16777216) (b1.toNat*65536) 24 (by omega) (by omega) (by omega)
 have o2:=orI (b0.toNat*16777216+b1.toNat*65536) (b2.toNat*256) 16 (by omega) (by omega) (by omega)
 have o3:=orI (b0.toNat*16777216+b1.toNat*65536+b2.toNat*256) b3.toNat 8 (by omega) (by omega) (by omega)
 have hn:b0.toNat*16777216+b1.toNat*65536+b2.toNat*256+b3.toNat=uS (b.take 4):=by rw[ht4];rfl
 rw[hn]at o3
 obtain⟨n,hnn⟩:∃n,n=uS (b.take 4):=⟨_,rfl⟩
 rw[<-hnn]at o3 |-
 obtain⟨B0,hB0⟩:∃B0:Int,B0=b0.toNat:=⟨_,rfl⟩
 obtain⟨B1,hB1⟩:∃B0:Int,B0=b1.toNat:=⟨_,rfl⟩
 obtain⟨B2,hB2⟩:∃B0:Int,B0=b2.toNat:=⟨_,rfl⟩
 obtain⟨B3,hB3⟩:∃B0:Int,B0=b3.toNat:=⟨_,rfl⟩
 obtain⟨X0,hX0⟩:∃X:Int,X=(b0.toNat*16777216:Nat):=⟨_,rfl⟩
 obtain⟨X1,hX1⟩:∃X:Int,X=(b1.toNat*65536:Nat):=⟨_,rfl⟩
 obtain⟨X2,hX2⟩:∃X:Int,X=(b2.toNat*256:Nat):=⟨_,rfl⟩
 obtain⟨Y1,hY1⟩:∃X:Int,X=(b0.toNat*16777216+b1.toNat*65536:Nat):=⟨_,rfl⟩
 obtain⟨Y2,hY2⟩:∃X:Int,X=(b0.toNat*16777216+b1.toNat*65536+b2.toNat*256:Nat):=⟨_,rfl⟩
 rw[<-hB0]at s0 c0
 rw[<-hB1]at s1 c1
 rw[<-hB2]at s2 c2
 rw[<-hB3]at c3 o3
 rw[<-hX0]at s0 o1
 rw[<-hX1]at s1 o1
 rw[<-hX2]at s2 o2
 rw[<-hY1]at o1 o2
 rw[<-hY2]at o2 o3
 have hf:jY b=if 1048576<n\/b.length-12<n then none else if U4 ((b.drop 12).take n)=b.take 12 then some ((b.drop 12).take n) else none:=by
  unfold jY;rw[if_neg h12,<-hnn]
 have hl0:(0:Int)<b.length:=by omega
 have hl1:(1:Int)<b.length:=by omega
 have hl2:(2:Int)<b.length:=by omega
 have hl3:(3:Int)<b.length:=by omega
 by_cases hm:1048576<n
 ·have hm':(1048576:Int)<n:=by omega
  have hf':jY b=none:=by rw[hf,if_pos (.inl hm)]
  simp (disch:=omega) [zz,h12,h12',g0,g1,g2,g3,hl0,hl1,hl2,hl3,q0,q1,q2,q3,<-hB0,<-hB1,<-hB2,<-hB3,c0,c1,c2,c3,s0,s1,s2,o1,o2,o3,hm,hm']
  (repeat with_reducible refine om ?_)
  simp (disch:=omega) [zz,hm,hf',Tryz.f125,h12]
 have hm':¬(1048576:Int)<n:=by omega
 by_cases hr:b.length-12<n
 ·have hr':(b.length:Int)-12<n:=by omega
  have hf':jY b=none:=by rw[hf,if_pos (.inr hr)]
  simp (disch:=omega) [zz,h12,h12',g0,g1,g2,g3,hl0,hl1,hl2,hl3,q0,q1,q2,q3,<-hB0,<-hB1,<-hB2,<-hB3,c0,c1,c2,c3,s0,s1,s2,o1,o2,o3,hm,hm',hr']
  (repeat with_reducible refine om ?_)
  simp (disch:=omega) [zz,hm,hr,hf',Tryz.f125,h12]
 have hr':¬(b.length:Int)-12<n:=by omega
 have hrl:((b.drop 12).take n).length=n:=by rw[List.length_take,List.length_drop];omega
 have hh:=zaG ((b.drop 12).take n) (by omega)
 have hor:¬(1048576<n\/b.length-12<n):=by omega
 rw[if_neg hor]at hf
 obtain⟨rec,hrec⟩:∃rec,rec=(b.drop 12).take n:=⟨_,rfl⟩
 have htn:(12+(n:Int)).toNat=12+n:=by omega
 have hdt:(b.take (12+n)).drop 12=rec:=by rw[hrec,List.drop_take];congr 1;omega
 rw[<-hrec]at hh hf
 have he1:(12:Int)+n<=b.length:=by omega
 simp (disch:=omega) [zz,h12,h12',g0,g1,g2,g3,hl0,hl1,hl2,hl3,q0,q1,q2,q3,<-hB0,<-hB1,<-hB2,<-hB3,c0,c1,c2,c3,s0,s1,s2,o1,o2,o3,hm,hm',hr',htn,hdt,he1]
 refine⟨by omega,by omega,?_⟩
 refine XF hh rfl rfl (by simp) (by simp[q9,TV.er,AV.er]) ?_
 have ht12:b.take 12=b.take (12:Int).toNat:=rfl
 by_cases he:U4 rec=b.take 12
 ·have hf':jY b=some rec:=by rw[hf,if_pos he]
  simp (disch:=omega) [zz,hm,hm',hr,hr',hf',Tryz.f125,h12,he,htn,hdt]
  exact⟨by omega,hrec⟩
 ·have hf':jY b=none:=by rw[hf,if_neg he]
  simp (disch:=omega) [zz,hm,hm',hr,hr',hf',Tryz.f125,h12,he,htn,hdt]
  exact⟨by omega,hrec⟩
theorem zk5 (b:List UInt8) (hb:b.length<=1000000000):PC Tryz.prog 125 [.av .str (.s b)] (.tup [(.str,.s (zhk b)),(.bool,.b (jY b).isSome)]):=zmX b hb
theorem zoJ (b:List UInt8) (hb:b.length<=1000000000):PC Tryz.prog 70 [.av .str (.s b)] (.tup [(.slice 9,.sl .no (qG (jW b))),(.int .i64,.i .i64 (qJ (jW b)).length)]):=by
 refine zow Tryz.func70 cf0 fun imm0 w0=>?_
 simp (disch:=omega) [zz]
 refine AT.loopV (α:=List (List UInt8) × Option Nat) (fun x ver=>St.of [(0,.av .str (.s b)),(4,.av (.slice 9) (.sl (Z1 ver x.2) (qG x.1))),(5,.av (.int .i64) (.i .i64 (qJ x.1).length))] [] ver [])
  (fun x=>jW b=x.1++jW (b.drop (qJ x.1).length)/\(qJ x.1).length<=b.length/\12*x.1.length<=(qJ x.1).length) (fun x=>b.length-(qJ x.1).length) ([],none) ?_ ?_ ?_
 ·apply Le.of<;>simp[le9,qG,qJ,Z1]<;>try omega
 ·simp[qJ]
 rintro⟨l,o⟩ ver ⟨h1,h2,h3⟩ KL hN hE
 simp only at h1 h2 h3 hN
 have hdl:(b.drop (qJ l).length).length<=1000000000:=by rw[List.length_drop];omega
 have hfo:=zk5 (b.drop (qJ l).length) hdl
 obtain⟨R,hR⟩:∃R,R=b.drop (qJ l).length:=⟨_,rfl⟩
 rw[<-hR]at hfo h1
 have hRl:R.length=b.length-(qJ l).length:=by rw[hR,List.length_drop]
 have htk:List.take b.length b=b:=List.take_of_length_le (by omega)
 have h2':((qJ l).length:Int)<=b.length:=by omega
 obtain⟨q,hq⟩:∃q,q=(qJ l).length:=⟨_,rfl⟩
 rw[<-hq]at hRl h2 h2' hR h3 |-
 refine zrd cf0 ?_
 simp (disch:=omega) [zz,h2',htk,<-hR]
 refine zcv hfo ?_
 cases hf:jY R with
 | none =>
  have hsn:jW b=l:=by rw[h1,KD hf,List.append_nil]
  simp (disch:=omega) [zz,hf]
  refine hE _ _ (by simp) ?_
  simp (disch:=omega) [zz,Tryz.f70,hsn,hq]
 | some r =>
  have hfr:=zfN hf
  obtain⟨hl1,hl2⟩:=WS hf
  have hsr:jW b=(l++[r])++jW (R.drop (12+r.length)):=by rw[h1,XZ hf];simp
  have hfl:(qJ (l++[r])).length=q+(12+r.length):=by
   have:qJ (l++[r])=qJ l++frame r:=by simp[qJ]
   rw[this,List.length_append,QD,hq]
  have hdd:R.drop (12+r.length)=b.drop (q+(12+r.length)):=by rw[hR,List.drop_drop]
  have hslen:(qG l).length=l.length:=wP l
  simp (disch:=omega) [zz,hf,hfr]
  refine jV (by rw[hslen,show Tryz.prog.bytesOf 9=16 by kernel_rfl];simp;omega) (by rw[hslen];simp;omega) (by kernel_rfl) (by kernel_rfl) fun ver'=>?_
  simp (disch:=omega) [zz]
  refine hN _ (l++[r],some 22) ?_ ⟨by simp only;rw[hfl,<-hdd];exact hsr,by simp only;rw[hfl];omega,by simp only[List.length_append,List.length_cons,List.length_nil];rw[hfl];omega⟩ (by simp only;rw[hfl];omega)
  apply Le.of<;>simp[le9,hfl,wE,qG,Z1]<;>try omega
theorem w83 (n c:Nat):IntKind.u8.wrap ((n:Int) / (c:Int) % 256)=((UInt8.ofNat (n / c)).toNat:Int):=by
 rw[<-Int.natCast_ediv,show ((n / c:Nat):Int) % 256=((n / c % 256:Nat):Int) by omega,zb0]
 congr 1
 rw[UInt8.toNat_ofNat',UInt8.toNat_ofNat'];omega
theorem w84 (n:Nat):IntKind.u8.wrap ((n:Int) % 256)=((UInt8.ofNat n).toNat:Int):=by
 have:=w83 n 1
 simpa using this
theorem zjL (d:Dig) (k:Nat) (h:k<d.length):(d.map fun b=>AV.i .u8 b.toNat)[k]?=some (.i .u8 (d[k]).toNat):=by simp[List.getElem?_eq_getElem h]
theorem zgf (r:List UInt8) (hr:r.length<=10000000000):PC Tryz.prog 133 [.av .str (.s r)] (.av .str (.s (U4 r))):=by
 have g1:IntKind.u8.wrap ((r.length:Int) / 16777216)=((UInt8.ofNat (r.length / 16777216)).toNat:Int):=w8 _ 16777216
 have g2:IntKind.u8.wrap ((r.length:Int) / 65536 % 256)=((UInt8.ofNat (r.length / 65536)).toNat:Int):=w83 _ 65536
 have g3:IntKind.u8.wrap ((r.length:Int) / 256 % 256)=((UInt8.ofNat (r.length / 256)).toNat:Int):=w83 _ 256
 have g4:=w84 r.length
 have t1:(r.length:Int).tdiv 16777216=(r.length:Int) / 16777216:=Int.tdiv_eq_ediv_of_nonneg (by omega)
 have t2:(r.length:Int).tdiv 65536=(r.length:Int) / 65536:=Int.tdiv_eq_ediv_of_nonneg (by omega)
 have t3:(r.length:Int).tdiv 256=(r.length:Int) / 256:=Int.tdiv_eq_ediv_of_nonneg (by omega)
 have t4:((r.length:Int) / 65536).tmod 256=(r.length:Int) / 65536 % 256:=Int.tmod_eq_emod_of_nonneg (by omega)
 have t5:((r.length:Int) / 256).tmod 256=(r.length:Int) / 256 % 256:=Int.tmod_eq_emod_of_nonneg (by omega)
 have t6:(r.length:Int).tmod 256=(r.length:Int) % 256:=Int.tmod_eq_emod_of_nonneg (by omega)
 have h4:(be4 r.length).length=4:=rfl
 have hsl:(sha (be4 r.length++r)).length=32:=QE _
 have hs2:=pJ (be4 r.length++r) (by rw[List.length_append];omega)
 have hb4:be4 r.length=[UInt8.ofNat (r.length / 16777216),UInt8.ofNat (r.length / 65536),UInt8.ofNat (r.length / 256),UInt8.ofNat r.length]:=rfl
 obtain⟨S,hS⟩:∃S,S=sha (be4 r.length++r):=⟨_,rfl⟩
 have hh:U4 r=be4 r.length++S.take 8:=by rw[hS];rfl
 rw[<-hS]at hs2 hsl
 rw[hh]
 have hE:qK S=.agg (S.map fun b=>.i .u8 b.toNat):=rfl
 refine zow Tryz.func133 cf0 fun imm0 w0=>?_
 have k1:UInt8.ofNat ((r.length:Int) / 16777216 % 256).toNat=UInt8.ofNat (r.length / 16777216):=w81 _ 16777216
 have k2:UInt8.ofNat ((r.length:Int) / 65536 % 256).toNat=UInt8.ofNat (r.length / 65536):=w81 _ 65536
 have k3:UInt8.ofNat ((r.length:Int) / 256 % 256).toNat=UInt8.ofNat (r.length / 256):=w81 _ 256
 have k4:=w80 r.length
 simp (disch:=omega) [zz,t1,t2,t3,t4,t5,t6,g1,g2,g3,g4]
 refine⟨by omega,YE hs2 rfl rfl (by simp) (by simp[q9,TV.er,AV.er,AV.ers,hb4,k1,k2,k3,k4]) ?_⟩
 simp (disch:=omega) [zz,hE]
 refine AT.loop' (α:=Nat) (fun i=>St.of [(5,.loc 5 []),(6,.av .str (.s (be4 r.length++S.take i))),(7,.av (.int .i64) (.i .i64 i))] [(5,(q8 Tryz.prog 53,.agg (S.map fun b=>.i .u8 b.toNat)))] (fun _=>0) [])
  (fun i=>i<=8) (fun i=>8-i) 0 ?_ ?_ ?_
 ·apply Le.of<;>simp[le9,hb4]<;>try omega
  exact⟨k1.symm,k2.symm,k3.symm,k4.symm⟩
 ·simp
 rintro i hi KL hN hE2
 refine zrd cf0 ?_
 by_cases hlt:i<8
 ·have hlt':(i:Int)<8:=by omega
  have hge:(0:Int)<=i:=by omega
  have hl32:(i:Int)<32:=by omega
  have hgt:=zjL S i (by omega)
  have htk:S.take (i+1)=S.take i++[S[i]'(by omega)]:=List.take_succ_eq_append_getElem (by omega)
  simp (disch:=omega) [zz,hlt',hgt]
  refine⟨by omega,by omega,hN _ (i+1) ?_ (by omega) (by omega)⟩
  apply Le.of<;>simp[le9]<;>try omega
 ·have hlt':¬(i:Int)<8:=by omega
  have hie:i=8:=by omega
  subst hie
  simp (disch:=omega) [zz]
  refine hE2 _ _ (by simp) ?_
  simp (disch:=omega) [zz,Tryz.f133]
theorem zjT (b:List UInt8) (h:4<=b.length):uS (b.take 4)=256*(256*(256*(256*0+(b[0]'(by omega)).toNat)+(b[1]'(by omega)).toNat)+(b[2]'(by omega)).toNat)+(b[3]'(by omega)).toNat:=by
 have e:=zqh h (List.getElem?_eq_getElem (by omega)) (List.getElem?_eq_getElem (by omega)) (List.getElem?_eq_getElem (by omega)) (List.getElem?_eq_getElem (by omega))
 rw[e]
 simp only[uS]
 omega
def zaR (b:List UInt8) (i:Nat):Nat:=(b.take i).foldl (fun n x=>256*n+x.toNat) 0
theorem WK (b:List UInt8) (i:Nat) (h:i<b.length):zaR b (i+1)=256*zaR b i+b[i].toNat:=by
 unfold zaR
 rw[List.take_succ_eq_append_getElem h,List.foldl_append];rfl
theorem zdU (b:List UInt8):∀i,i<=4->i<=b.length->zaR b i<256 ^ i
 | 0,_,_=>by simp[zaR]
 | i+1,h,h2=>by
  have ih:=zdU b i (by omega) (by omega)
  have:=(b[i]'(by omega)).toNat_lt
  rw[WK b i (by omega),Nat.pow_succ]
  omega
theorem zkR (b:List UInt8) (h:4<=b.length):zaR b 4=uS (b.take 4):=by
 rw[zjT b h,WK b 3 (by omega),WK b 2 (by omega),WK b 1 (by omega),WK b 0 (by omega)]
 rfl
theorem znm (b:List UInt8) (hb:b.length<=1000000000):PC Tryz.prog 77 [.av .str (.s b)] (.tup [(.slice 9,.sl .no (qG (jW b))),(.int .i64,.i .i64 (qJ (jW b)).length)]):=by
 refine zow Tryz.func77 cf0 fun imm0 w0=>?_
 simp (disch:=omega) [zz]
 refine AT.loopV (α:=List (List UInt8) × Option Nat) (fun x ver=>St.of [(0,.av .str (.s b)),(4,.av (.slice 9) (.sl (Z1 ver x.2) (qG x.1))),(5,.av (.int .i64) (.i .i64 (qJ x.1).length))] [] ver [])
  (fun x=>jW b=x.1++jW (b.drop (qJ x.1).length)/\(qJ x.1).length<=b.length/\12*x.1.length<=(qJ x.1).length) (fun x=>b.length-(qJ x.1).length) ([],none) ?_ ?_ ?_
 ·apply Le.of<;>simp[le9,qG,qJ,Z1]<;>try omega
 ·simp[qJ]
 rintro⟨l,o⟩ ver ⟨h1,h2,h3⟩ KL hN hE
 simp only at h1 h2 h3 hN
 obtain⟨R,hR⟩:∃R,R=b.drop (qJ l).length:=⟨_,rfl⟩
 rw[<-hR]at h1
 have hRl:R.length=b.length-(qJ l).length:=by rw[hR,List.length_drop]
 obtain⟨q,hq⟩:∃q,q=(qJ l).length:=⟨_,rfl⟩
 rw[<-hq]at hRl h2 hR h3 |-
 refine zrd cf0 ?_
 by_cases h12:12<=R.length
 rotate_left
 ·have hlt':¬(q:Int)+12<=b.length:=by omega
  have hfn:jY R=none:=by unfold jY;rw[if_pos (by omega)]
  have hsn:jW b=l:=by rw[h1,KD hfn,List.append_nil]
  simp (disch:=omega) [zz,hlt']
  refine hE _ _ (by simp) ?_
  simp (disch:=omega) [zz,Tryz.f77,hsn,hq]
 have hlt':(q:Int)+12<=b.length:=by omega
 have hRg:∀i (h:i<4),b[q+i]?=some (R[i]'(by omega)):=fun i h=>by
  rw[List.getElem?_eq_getElem (by omega)]
  simp only[hR,List.getElem_drop]
 simp (disch:=omega) [zz,hlt']
 refine AT.loop' (α:=Nat) (fun i=>St.of [(0,.av .str (.s b)),(4,.av (.slice 9) (.sl (Z1 ver o) (qG l))),(5,.av (.int .i64) (.i .i64 q)),(6,.av (.int .i64) (.i .i64 (zaR R i))),(7,.av (.int .i64) (.i .i64 i))] [] ver [])
  (fun i=>i<=4) (fun i=>4-i) 0 ?_ ?_ ?_
 ·apply Le.of<;>simp[le9,zaR]<;>try omega
 ·simp
 ·rintro i hi KL2 hN2 hE2
  refine zrd cf0 ?_
  by_cases hi4:i<4
  ·have hi4':(i:Int)<4:=by omega
   have hgb:=hRg i hi4
   have hns:=WK R i (by omega)
   have hnl:=zdU R i (by omega) (by omega)
   have hpw:256 ^ i<=256 ^ 3:=Nat.pow_le_pow_right (by omega) (by omega)
   have hx:=(R[i]'(by omega)).toNat_lt
   have hgq:b[q+i]'(by omega)=R[i]'(by omega):=by
    rw[List.getElem?_eq_getElem (by omega)]at hgb
    exact Option.some.inj hgb
   obtain⟨z,hz⟩:∃z,z=(R[i]'(by omega)).toNat:=⟨_,rfl⟩
   rw[<-hz]at hx hns
   have hw1:IntKind.i64.wrap (z:Int)=z:=i64_in (by omega) (by omega)
   have hw2:IntKind.i64.wrap (256*(zaR R i:Int)+(z:Int))=(zaR R (i+1):Nat):=by rw[i64_in (by omega) (by omega)];omega
   simp (disch:=omega) [zz,hi4',hgb,hgq,<-hz,hw1,hw2]
   refine⟨by omega,by omega,hN2 _ (i+1) ?_ (by omega) (by omega)⟩
   apply Le.of<;>simp[le9]<;>try omega
  ·have hie:i=4:=by omega
   subst hie
   have hnf:=zkR R (by omega)
   have hnl:=zdU R 4 (by omega) (by omega)
   obtain⟨n,hn⟩:∃n,n=zaR R 4:=⟨_,rfl⟩
   rw[<-hn]at hnf hnl
   have hnl2:n<4294967296:=hnl
   simp (disch:=omega) [zz,<-hn]
   refine hE2 _ _ (by simp) ?_
   clear hE2 hN2
   by_cases hbig:1048576<n\/R.length-12<n
   ·have hfn:jY R=none:=by unfold jY;rw[if_neg (by omega),<-hnf,if_pos hbig]
    have hsn:jW b=l:=by rw[h1,KD hfn,List.append_nil]
    by_cases hb1:1048576<n
    ·have hb1':(1048576:Int)<n:=by omega
     simp (disch:=omega) [zz,hb1']
     refine hE _ _ (by simp) ?_
     simp (disch:=omega) [zz,Tryz.f77,hsn,hq]
    ·have hb1':¬(1048576:Int)<n:=by omega
     have hb2:(b.length:Int)<(q:Int)+12+n:=by omega
     simp (disch:=omega) [zz,hb1',hb2]
     refine hE _ _ (by simp) ?_
     simp (disch:=omega) [zz,Tryz.f77,hsn,hq]
   ·have hb1':¬(1048576:Int)<n:=by omega
    have hb2:¬(b.length:Int)<(q:Int)+12+n:=by omega
    obtain⟨r,hr⟩:∃r,r=(R.drop 12).take n:=⟨_,rfl⟩
    have hrl:r.length=n:=by rw[hr,List.length_take,List.length_drop];omega
    have hhd:=zgf r (by omega)
    have hs1:(b.take (q+12+n)).drop (q+12)=r:=by
     rw[hr,hR,List.drop_drop,List.drop_take]
     congr 1;omega
    have hs2:(b.take (q+12)).drop q=R.take 12:=by
     rw[hR,List.drop_take]
     congr 1;omega
    simp (disch:=omega) [zz,hb1',hb2,hs1]
    (repeat with_reducible refine om ?_)
    refine XF hhd rfl rfl (by simp) (by simp[q9,TV.er,AV.er]) ?_
    by_cases he:U4 r=R.take 12
    rotate_left
    ·have hfn:jY R=none:=by unfold jY;rw[if_neg (by omega),<-hnf,if_neg hbig,<-hr,if_neg he]
     have hsn:jW b=l:=by rw[h1,KD hfn,List.append_nil]
     simp (disch:=omega) [zz,hs2,he]
     (repeat with_reducible refine om ?_)
     refine hE _ _ (by simp) ?_
     simp (disch:=omega) [zz,Tryz.f77,hsn,hq]
    ·have hfr:jY R=some r:=by unfold jY;rw[if_neg (by omega),<-hnf,if_neg hbig,<-hr,if_pos he]
     obtain⟨hl1,hl2⟩:=WS hfr
     have hsr:jW b=(l++[r])++jW (R.drop (12+r.length)):=by rw[h1,XZ hfr];simp
     have hfl:(qJ (l++[r])).length=q+(12+r.length):=by
      have:qJ (l++[r])=qJ l++frame r:=by simp[qJ]
      rw[this,List.length_append,QD,hq]
     have hdd:R.drop (12+r.length)=b.drop (q+(12+r.length)):=by rw[hR,List.drop_drop]
     have hslen:(qG l).length=l.length:=wP l
     simp (disch:=omega) [zz,hs2,he]
     (repeat with_reducible refine om ?_)
     refine jV (by rw[hslen,show Tryz.prog.bytesOf 9=16 by kernel_rfl];simp;omega) (by rw[hslen];simp;omega) (by kernel_rfl) (by kernel_rfl) fun ver'=>?_
     simp (disch:=omega) [zz]
     refine hN _ (l++[r],some 62) ?_ ⟨by simp only;rw[hfl,<-hdd];exact hsr,by simp only;rw[hfl];omega,by simp only[List.length_append,List.length_cons,List.length_nil];rw[hfl];omega⟩ (by simp only;rw[hfl];omega)
     apply Le.of<;>simp[le9,hfl,wE,qG,Z1]<;>try omega
end
section
variable [Sel]
def VC1 (v:AV) (args:List TV) (H:q7) (R:TV->q7->Prop):Prop:=match v with
 | .fn g caps=>∃cs,caps.mapM QB=some cs/\qL Tryz.prog g=true/\q6 Tryz.prog g ((args++cs).map TV.er) H R
 | .bm g fs=>∃cs,fs.mapM QB=some cs/\qL Tryz.prog g=true/\q6 Tryz.prog g ((cs++args).map TV.er) H R
 | _=>False
theorem zjR {s:St} {v:AV} {args:List TV} {dst:Option Nat} {K:St->Prop} {R:TV->q7->Prop} (Hs rest:q7) (hp:s.H.Perm (Hs++rest)) (he:Hs.er=Hs) (ha:args.all qH=true) (h:VC1 v args Hs R)
  (hk:∀r H',R r H'->(H'++rest).keys.Nodup->∃H'',Ab.HSub H'' (H'++rest)/\K (({ s with H:=H'' }:St).put dst r)):kL Tryz.prog s (.av .func v) args dst K:=by
 unfold VC1 at h
 split at h
 ·obtain⟨cs,h1,h2,h3⟩:=h
  exact qM Hs rest hp h1 ha h2 (by rw[he];exact h3) hk
 ·obtain⟨cs,h1,h2,h3⟩:=h
  exact YA Hs rest hp h1 ha h2 (by rw[he];exact h3) hk
 ·exact h.elim
end
end Go.Proofs.YtognnffjdckalaaGreatDoor
