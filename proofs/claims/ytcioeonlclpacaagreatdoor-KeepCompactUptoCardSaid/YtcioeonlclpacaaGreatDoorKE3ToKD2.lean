/- What a Keep tells: the program. No condition beyond each theorem's own. -/
import Derived.Test.YtcioeonlclpacaaGreatDoorKE0ToKE2
import Derived.Test.YtcioeonlclpacaaGreatDoorE2ToE5
import Derived.Test.YtcioeonlclpacaaGreatDoorP25ToG2
import Derived.Test.YtcioeonlclpacaaGreatDoorKP4ToKB1
import Derived.Test.YtcioeonlclpacaaGreatDoorKT4ToKD1
set_option linter.unusedSimpArgs false
set_option linter.unusedVariables false
set_option linter.unusedSectionVars false
section
set_option maxRecDepth 100000
namespace Go.Proofs.YtcioeonlclpacaaGreatDoor
open Go Go.Ab
open Classical
variable [Sel] [SelPow] [SelErr]
theorem zNS (q:Dig) (mo:Nat) (D E:Nat) (cs:List Cel) (hcs:∀c∈cs,zLA c) :
  q7 Tryz.prog 26 [.av .ptr (.ptr D DbT []),.av (qD Tryz.prog 46) (KW q)] (q8.er (DbH D E mo cs)) fun r H'=>r=.av (.slice 49) (qH (getD (zJx cs) q))∧H'=DbH D E mo cs:=by
 rw[zNh hcs];exact zRu q mo D E cs hcs
set_option maxHeartbeats 4000000 in
theorem zMa (K B M:Nat) (a:KA) (k:KV) (hk:zJL a k) (q:Dig) :
  q7 Tryz.prog 18 [.av .ptr (.ptr K KpT []),.av (qD Tryz.prog 46) (KW q)] (kpH K B M a k) fun r H'=>r=.av (.slice 49) (qH (getD k.M.L q))∧H'=kpH K B M a k:=by
 have hg:=zJU K B M a k
 have hof:=zNS q k.mo a.D a.E a.cs hk.cels
 rw[hk.abs]at hof
 refine zov Tryz.func18 cf0 fun imm0 w0=>?_
 simp (disch:=omega) [zz,-List.reduceReplicate,hg]
 (repeat with_reducible refine om ?_)
 refine UL (DbH a.D a.E k.mo a.cs) ((K,kpO a)::(jH a.J B M a.o k.j++stB a.S a.T k.M.bl)) (zLS K B M a k) hof rfl rfl (by simp) (by simp[qS,TV.er,AV.er]) ?_
 simp (disch:=omega) [zz,-List.reduceReplicate,Tryz.f18,u4 hk]
set_option maxHeartbeats 4000000 in
theorem zMZ (K B M:Nat) (a:KA) (k:KV) (hk:zJL a k) (hTS:a.T≠a.S) (q:Dig) :
  q7 Tryz.prog 38 [.av .ptr (.ptr K KpT []),.av (qD Tryz.prog 46) (KW q)] (kpH K B M a k) fun r H'=>r=.tup [(.str,.s (((k.M.bl.find? fun p=>decide (p.1=q)).map Prod.snd).getD [])),(.bool,.b (zJl q k.M.bl))]∧H'=kpH K B M a k:=by
 have hg:=zJU K B M a k
 refine zov Tryz.func38 cf0 fun imm0 w0=>?_
 simp (disch:=omega) [zz,-List.reduceReplicate,hg]
 (repeat with_reducible refine om ?_)
 refine UL (stB a.S a.T k.M.bl) ((K,kpO a)::(jH a.J B M a.o k.j++DbH a.D a.E k.mo a.cs)) (zNo K B M a k) (zNP a.S a.T hTS k.M.bl q) rfl rfl (by simp) (by simp[qS,TV.er,AV.er]) ?_
 simp (disch:=omega) [zz,-List.reduceReplicate,Tryz.f38,u4 hk]
theorem zNT {s:St} {dst:Option Nat} {X:St→Prop} {args:List TV} (K B M:Nat) (a:KA) (k:KV) (hk:zJL a k) (hL:k.M.L.length≤1000000) (h32:∀p∈k.M.L,p.1.length=32) (rest:q8) (hH:s.H.Perm (kpH K B M a k++rest)) (ha:args.all qQ=true)
  (hx:qS (args.map TV.er) [.av .ptr (.ptr a.D DbT [])]) (hX:X (({ s with H:=s.H }:St).put dst (.av DgS (qO (zKJ (k.M.L.map Prod.fst)))))):ZP Tryz.prog s (.av .func (.fn 25 [])) args dst X:=by
 have hcl:a.cs.map (·.key)=k.M.L.map Prod.fst:=by rw[←hk.abs];simp[zJx,Function.comp_def]
 have hlen:a.cs.length=k.M.L.length:=by rw[←hk.abs];simp[zJx]
 have hkeys:=zPz a.D a.E k.mo a.cs (by omega) (fun c hc=>by
  have:c.key∈k.M.L.map Prod.fst:=by rw[←hcl];exact List.mem_map.2 ⟨c,hc,rfl⟩
  obtain⟨p,hp,e⟩:=List.mem_map.1 this
  rw[←e];exact h32 p hp)
 have hpm:=hH.trans (by rw[←List.append_assoc];exact List.Perm.append_right rest (zLS K B M a k):(kpH K B M a k++rest).Perm (DbH a.D a.E k.mo a.cs++(((K,kpO a)::(jH a.J B M a.o k.j++stB a.S a.T k.M.bl))++rest)))
 refine qE (DbH a.D a.E k.mo a.cs) _ hpm rfl ha (by simp) (R:=fun r H'=>r=.av DgS (qO (zKJ (k.M.L.map Prod.fst)))∧H'=DbH a.D a.E k.mo a.cs) ?_ ?_
 ·rw[zNh hk.cels]
  refine q7.args (hkeys.mono ?_) (by simpa using hx)
  rintro r H' ⟨ks',h1,rfl,rfl⟩
  rw[zSE h1,hcl]
  exact⟨rfl,rfl⟩
 rintro r' H' ⟨rfl,rfl⟩ _
 exact⟨s.H,HSub.of_perm hpm.symm,hX⟩
theorem zPi (l:List Dig) (k:Nat) (h:k<l.length):(l.map KW)[k]?=some (KW l[k]):=by simp[List.getElem?_eq_getElem h]
set_option maxHeartbeats 4000000 in
theorem zMQ (K B M:Nat) (a:KA) (k:KV) (hk:zJL a k) (hL:k.M.L.length≤1000000) (h32:∀p∈k.M.L,p.1.length=32) (hrow:∀q,(getD k.M.L q).length≤8) :
  q7 Tryz.prog 21 [.av .ptr (.ptr K KpT [])] (kpH K B M a k) fun r H'=>r=.tup [(.int .i64,.i .i64 (((zKJ (k.M.L.map Prod.fst)).map fun q=>(getD k.M.L q).length).sum:Nat)),(.int .i64,.i .i64 (szB k.M.bl))]∧H'=kpH K B M a k:=by
 have hg:=zJU K B M a k
 obtain⟨ks,hks⟩:∃ks,ks=zKJ (k.M.L.map Prod.fst):=⟨_,rfl⟩
 have hkl:ks.length≤1000000:=by
  rw[hks,(zKE _).1.length_eq];simpa using hL
 have hed:qO ks=.sl .no (ks.map KW):=rfl
 obtain⟨f,hf⟩:∃f:Dig→Nat,f=fun q=>(getD k.M.L q).length:=⟨_,rfl⟩
 have hf8:∀q,f q≤8:=fun q=>by rw[hf];exact hrow q
 have hsum:∀i,((ks.take i).map f).sum≤8*i:=by
  intro i
  induction i with
  | zero=>simp
  | succ i ih =>
   by_cases hi:i<ks.length
   ·rw[List.take_succ_eq_append_getElem hi,List.map_append,List.sum_append]
    have:=hf8 ks[i]
    simp only[List.map_cons,List.map_nil,List.sum_cons,List.sum_nil]
    omega
   ·rw[List.take_of_length_le (by omega)]
    rw[List.take_of_length_le (by omega)]at ih
    omega
 refine zov Tryz.func21 cf0 fun imm0 w0=>?_
 simp (disch:=omega) [zz,hg]
 refine zNT K B M a k hk hL h32 [] (by simp) (by simp[qQ]) (by simp[qS,TV.er,AV.er]) ?_
 rw[←hks,←hf,hed]
 simp (disch:=omega) [zz]
 refine AT.loop' (α:=Nat) (fun i=>St.of [(0,.av .ptr (.ptr K KpT [])),(4,.av (.int .i64) (.i .i64 (((ks.take i).map f).sum:Nat))),(11,.av DgS (.sl .no (ks.map KW))),(12,.av (.int .i64) (.i .i64 ks.length)),(13,.av (.int .i64) (.i .i64 i))] [] (fun _=>0) (kpH K B M a k))
  (fun i=>i≤ks.length) (fun i=>ks.length-i) 0 ?_ ?_ ?_
 ·apply Le.of<;>simp[qU,qG,qO,qH,qP,qK,qF,qI,qJ,qN,]<;>try omega
 ·simp
 rintro i hi KL hN hE
 refine qM (cf:=cf0) laid mixed _ _ _ (by kernel_rfl) ?_
 by_cases hlt:i<ks.length
 ·have hlt':(i:Int)<ks.length:=by omega
  have hgk:=zPi ks i hlt
  have hof:=zNS ks[i] k.mo a.D a.E a.cs hk.cels
  rw[hk.abs]at hof
  have hts:((ks.take (i+1)).map f).sum=((ks.take i).map f).sum+f ks[i]:=by
   rw[List.take_succ_eq_append_getElem hlt,List.map_append,List.sum_append];simp only[List.map_cons,List.map_nil,List.sum_cons,List.sum_nil,Nat.add_zero]
  have hs1:=hsum i
  have hs2:=hf8 ks[i]
  have hfl:f ks[i]=(getD k.M.L ks[i]).length:=by rw[hf]
  obtain⟨q,hq⟩:∃q,q=ks[i]:=⟨_,rfl⟩
  rw[←hq]at hgk hof hts hs2 hfl
  have het:qH (getD k.M.L q)=.sl .no (trs (getD k.M.L q)):=rfl
  have htl:(trs (getD k.M.L q)).length=f q:=by rw[zL1,hfl]
  obtain⟨S,hS⟩:∃S,S=((ks.take i).map f).sum:=⟨_,rfl⟩
  rw[←hS]at hts hs1 ⊢
  have hqe:=zmb q
  obtain⟨Q,hQ⟩:∃Q,Q=KW q:=⟨_,rfl⟩
  rw[←hQ]at hgk hof hqe
  simp (disch:=omega) [zz,hlt',hgk,hg]
  (repeat with_reducible refine om ?_)
  refine UL (DbH a.D a.E k.mo a.cs) ((K,kpO a)::(jH a.J B M a.o k.j++stB a.S a.T k.M.bl)) (zLS K B M a k) hof rfl rfl (by simp) (by simp[qS,TV.er,AV.er,hqe]) ?_
  rw[het]
  simp (disch:=omega) [zz,htl]
  (repeat with_reducible refine om ?_)
  have hts3:((List.take (i+1) (List.map f ks)).sum:Int)=(S:Int)+(f q:Int):=by rw[←List.map_take,hts];omega
  refine hN _ (i+1) ?_ (by omega) (by omega)
  apply Le.of<;>simp[qU,qG,qO,qH,qP,qK,qF,qI,qJ,qN,hts3]<;>try omega
 ·have hlt':¬(i:Int)<ks.length:=by omega
  have htk:ks.take i=ks:=List.take_of_length_le (by omega)
  rw[htk]
  simp (disch:=omega) [zz,hlt']
  refine hE _ _ (by simp) ?_
  simp (disch:=omega) [zz,hg]
  refine zM6 K B M a k [] (by simp) (zQa a.S a.T k.M.bl) (by simp) (by simp[qQ]) (by simp[qS,TV.er,AV.er]) ?_
  simp (disch:=omega) [zz,Tryz.f21,u4 hk]
abbrev zTA:Cfg:=⟨fun _=>false,fun n=>n==1000005||n==2000042⟩
set_option maxHeartbeats 16000000 in
theorem zQd (K B M:Nat) (a:KA) (k:KV) (hk:zJL a k) (hm:1≤k.mo) (hm8:k.mo≤8) (hs:szB k.M.bl≤1000000000000) (x:List UInt8) (hx:x.length≤1000000000) :
  q7 Tryz.prog 44 [.av .ptr (.ptr K KpT []),.av .str (.s x)] (kpH K B M a k) fun r H'=>r=.av (.int .i64) (.i .i64 (K0 k.mo x k.M).2)∧KpR K B M ⟨k.j,k.mo,(K0 k.mo x k.M).1⟩ H':=by
 have htx:=zFo x hx
 have htl:=zFt x
 refine q7.sub (R:=fun r H'=>r=.av (.int .i64) (.i .i64 (K0 k.mo x k.M).2)∧∃H'',HSub H'' H'∧KpR K B M ⟨k.j,k.mo,(K0 k.mo x k.M).1⟩ H'') ?_ (fun r H' ⟨h1,H'',h2,h3⟩ _=>⟨H'',h2,h1,h3⟩)
 refine zov Tryz.func44 zTA fun imm0 w0=>?_
 simp (disch:=omega) [zz]
 refine fun b hb=>zcv htx ?_
 have hgb:∀v,jM ((b,v)::kpH K B M a k) b=some v:=fun v=>by simp[jM]
 have hend:∀v (k2:KV) (a2:KA),zJL a2 k2→∃H'',HSub H'' ((b,v)::kpH K B M a2 k2)∧KpR K B M k2 H'':=fun v k2 a2 h2=>⟨_,HSub.of_sub (List.sublist_cons_self _ _),KpR.of h2⟩
 by_cases he:(zD9 x).2=0
 ·rcases hl:(zD9 x).1 with _|⟨w,_|⟨s,_|⟨s2,l⟩⟩⟩
  ·have hlv:K0 k.mo x k.M=(k.M,3):=by unfold K0;rw[if_neg (by simpa using he),hl]
   simp (disch:=omega) [zz,zDn,he,hl,hlv,zz6,Tryz.f44,u4 hk,hend _ k a hk]
  ·have hlv:K0 k.mo x k.M=(k.M,3):=by unfold K0;rw[if_neg (by simpa using he),hl]
   simp (disch:=omega) [zz,zDn,he,hl,hlv,zz6,Tryz.f44,u4 hk,hend _ k a hk]
  ·have hsl:s.length≤1000000000:=by have:=htl.1 s (by rw[hl];simp);omega
   by_cases hwb:w=blobW
   ·subst hwb
    have hlv:K0 k.mo x k.M=(⟨k.M.L,zJm (sha s) s k.M.bl⟩,0):=by unfold K0;rw[if_neg (by simpa using he),hl];rfl
    simp (disch:=omega) [zz,zDn,he,hl,zz6,blobW]
    refine jW.of [0,1,2,3,4,5,6,7,8,9] [] (by kernel_rfl) ?_
    simp (disch:=omega) [zz]
    (repeat with_reducible refine om ?_)
    refine zio (R:=fun r H'=>r=.av (.int .i64) (.i .i64 0)∧KpR K B M ⟨k.j,k.mo,⟨k.M.L,zJm (sha s) s k.M.bl⟩⟩ H') (kpH K B M a k) [(b,_)] (List.perm_append_comm (l₁:=[_])) rfl (by simp[qQ]) (by simp) ?_ ?_
    ·rw[u4 hk]
     simpa[TV.er,AV.er]using zQE K B M a k hk hs s hsl
    rintro r' H' ⟨rfl,a2,hk2,rfl⟩ _
    refine⟨(b,_)::kpH K B M a2 _,HSub.of_perm (List.perm_append_comm (l₂:=[_])),?_⟩
    simp (disch:=omega) [zz,hlv,Tryz.f44,u4 hk2,hend _ _ a2 hk2]
   ·by_cases hwt:w=traceW
    ·subst hwt
     have hlv:K0 k.mo x k.M=(if (zEz s).2=0 then(⟨zJj k.mo k.M.L (zEz s).1,k.M.bl⟩,0) else(k.M,(zEz s).2)):=by unfold K0;rw[if_neg (by simpa using he),hl];simp only[if_neg hwb,if_true]
     have hlv2:(K0 k.mo x k.M).2=(zEz s).2∧(⟨k.j,k.mo,(K0 k.mo x k.M).1⟩:KV)=(if (zEz s).2=0 then⟨k.j,k.mo,⟨zJj k.mo k.M.L (zEz s).1,k.M.bl⟩⟩ else k):=by
      rw[hlv];split
      ·rename_i h;exact⟨h.symm,rfl⟩
      ·exact⟨rfl,rfl⟩
     simp (disch:=omega) [zz,zDn,he,hl,zz6,traceW]
     refine jW.of [0,1,2,3,4,5,6,7,8,9] [] (by kernel_rfl) ?_
     simp (disch:=omega) [zz]
     (repeat with_reducible refine om ?_)
     refine zio (R:=fun r H'=>r=.av (.int .i64) (.i .i64 (zEz s).2)∧KpR K B M (if (zEz s).2=0 then⟨k.j,k.mo,⟨zJj k.mo k.M.L (zEz s).1,k.M.bl⟩⟩ else k) H') (kpH K B M a k) [(b,_)] (List.perm_append_comm (l₁:=[_])) rfl (by simp[qQ]) (by simp) ?_ ?_
     ·rw[u4 hk]
      simpa[TV.er,AV.er]using zPL K B M a k hk hm hm8 s hsl
     rintro r' H' ⟨rfl,a2,hk2,rfl⟩ _
     refine⟨(b,_)::kpH K B M a2 _,HSub.of_perm (List.perm_append_comm (l₂:=[_])),?_⟩
     have he2:=u4 (K:=K) (B:=B) (M:=M) hk2
     have hen2:=fun v=>hend v _ a2 hk2
     rw[←hlv2.2]at he2 hen2 ⊢
     simp (disch:=omega) [zz,hlv2.1,Tryz.f44,he2,hen2]
    ·have hlv:K0 k.mo x k.M=(k.M,3):=by unfold K0;rw[if_neg (by simpa using he),hl];simp[hwb,hwt]
     have hwb':¬[98,108,111,98]=w:=fun e=>hwb (by rw[←e];rfl)
     have hwt':¬[116,114,97,99,101]=w:=fun e=>hwt (by rw[←e];rfl)
     simp (disch:=omega) [zz,zDn,he,hl,hlv,zz6,hwb',hwt',Tryz.f44,u4 hk,hend _ k a hk]
  ·have hlv:K0 k.mo x k.M=(k.M,3):=by unfold K0;rw[if_neg (by simpa using he),hl]
   have hlen:(zz6 (zD9 x).1).length=l.length+3:=by rw[hl];simp[zz6]
   have hne:¬((l.length:Int)+3=2):=by omega
   simp (disch:=omega) [zz,zDn,he,hlen,hne,hlv,Tryz.f44,u4 hk,hend _ k a hk]
 ·have hlv:K0 k.mo x k.M=(k.M,3):=by unfold K0;rw[if_pos he]
  simp (disch:=omega) [zz,zDn,he,hlv,Tryz.f44,u4 hk,hend _ k a hk]
end Go.Proofs.YtcioeonlclpacaaGreatDoor
end
section
set_option maxRecDepth 100000
namespace Go.Proofs.YtcioeonlclpacaaGreatDoor
open Go Go.Ab
open Classical
variable [Sel] [SelPow]
def zJY (l:List Int):AV:=.sl .no (l.map fun n=>.i .i64 n)
theorem zPa (p:Int) (u:Nat):(p.tmod ((u:Int)+1)+u+1).tmod ((u:Int)+1)=(zK3 p u:Int)∧zK3 p u≤u∧-((u:Int)+1)<p.tmod ((u:Int)+1)∧p.tmod ((u:Int)+1)<(u:Int)+1:=by
 have h0:=Int.tmod_lt_of_pos p (b:=(u:Int)+1) (by omega)
 have h2:-((u:Int)+1)<p.tmod ((u:Int)+1):=by
  have:=Int.tmod_lt_of_pos (-p) (b:=(u:Int)+1) (by omega)
  rw[Int.neg_tmod]at this
  omega
 have h3:0≤(p.tmod ((u:Int)+1)+u+1).tmod ((u:Int)+1):=Int.tmod_nonneg _ (by omega)
 have h4:=Int.tmod_lt_of_pos (p.tmod ((u:Int)+1)+u+1) (b:=(u:Int)+1) (by omega)
 have e:(p.tmod ((u:Int)+1)+u+1).tmod ((u:Int)+1)=(zK3 p u:Int):=by unfold zK3;omega
 exact⟨e,by omega,h2,h0⟩
theorem zSj (u:Nat):zK3 0 u=0:=by
 have:=(zPa 0 u).1
 simp at this
 omega
def CrR (B M:Nat) (o:Bool) (d d':DV) (r:TV) (H:q8):Prop:=∃B2 M2 o2,M2≠B2∧r=.av .ptr (.ptr B2 zJB [])∧H=j4 B2 M2 o2 d'++j4 B M o d
theorem CrR.of {B M B2 M2:Nat} {o o2:Bool} {d d':DV} (h:M2≠B2):CrR B M o d d' (.av .ptr (.ptr B2 zJB [])) (j4 B2 M2 o2 d'++j4 B M o d):=⟨_,_,_,h,rfl,rfl⟩
theorem zKy (B M:Nat) (o:Bool) (d:DV):(j4 B M o d).er=j4 B M o d:=by simp
def zKX (p:Int) (f:FV):FV:=if f.data.length≤f.sure then⟨f.data,f.data.length⟩ else⟨f.data.take (f.sure+zK3 p (f.data.length-f.sure)),f.sure+zK3 p (f.data.length-f.sure)⟩
def w5 (f:FV) (ps:List Int):List Int:=if f.data.length≤f.sure then ps else ps.drop 1
theorem zNW (ps:List Int) (f:FV):zJy ps (some f)=(some (zKX (ps.headD 0) f),w5 f ps):=by
 simp only[zJy,zKX,w5]
 split<;>rfl
theorem zNE (ps:List Int):zJy ps none=(none,ps):=rfl
def bsD (d:DV):List Bool:=(if d.m.isSome then [false] else [])++(if d.n.isSome then [true] else [])
theorem zQT (d:DV):c6 d=(bsD d).map nmB:=by
 obtain⟨m,n,l⟩:=d
 cases m<;>cases n<;>rfl
def crS (d:DV) (x:DV × List Int) (b:Bool):DV × List Int:=match g5 b d with
 | some f=>(zJC b (some (zKX (x.2.headD 0) f)) x.1,w5 f x.2)
 | none=>x
theorem zRI (ps:List Int) (d:DV):((bsD d).foldl (crS d) (zJe,ps)).1=zJh ps d:=by
 obtain⟨m,n,l⟩:=d
 cases m<;>cases n<;>simp[bsD,crS,g5,zJC,zJe,zJh,zNW,zNE]
theorem zQI (d:DV):∀b∈bsD d,∃f,g5 b d=some f:=by
 obtain⟨m,n,l⟩:=d
 cases m<;>cases n<;>simp[bsD,g5]
theorem zLp (b:Bool) (o:Option FV) (d:DV):(zJC b o d).left=d.left:=by cases b<;>rfl
theorem zOD {α β:Type} (f:β→α→β) (x:β) (l:List α) (i:Nat) (h:i<l.length):(l.take (i+1)).foldl f x=f ((l.take i).foldl f x) l[i]:=by
 rw[List.take_succ_eq_append_getElem h,List.foldl_append];rfl
set_option maxHeartbeats 16000000 in
theorem zPk (B M:Nat) (hBM:M≠B) (o:Bool) (d:DV) (hd:DOK d) (hz:szF d.m≤1000000000000∧szF d.n≤1000000000000) (ps:List Int) (hps:ps.length≤1000000000) :
  q7 Tryz.prog 17 [.av .ptr (.ptr B zJB []),.av (.slice 3) (zJY ps)] (j4 B M o d) (CrR B M o d (zJh ps d)):=by
 have hBM':¬B=M:=fun e=>hBM e.symm
 have hep:zJY ps=.sl .no (ps.map fun n=>.i .i64 n):=rfl
 have hnl:=zME d
 have hnb:=zQT d
 refine zov Tryz.func17 cf0 fun imm0 w0=>?_
 simp (disch:=omega) [zz,hep]
 refine qE (R:=fun r H'=>∃B M,M≠B∧r=.av .ptr (.ptr B zJB [])∧H'=j4 B M false zJe) [] (j4 B M o d) (List.Perm.refl _) rfl (by simp[qQ]) (by simp) ?_ ?_
 ·simpa[q8.er_nil]using zNl
 rintro r' H' ⟨B2,M2,hMB2,rfl,rfl⟩ hnd
 refine⟨_,HSub.refl _,?_⟩
 simp[j4,q8.keys]at hnd
 simp (disch:=omega) [zz]
 refine zLH B M hBM o d (j4 B2 M2 false zJe) List.perm_append_comm (by simp) ?_
 have hsl:(strs (c6 d)).length=(bsD d).length:=by rw[qX,hnb,List.length_map]
 have hbl:(bsD d).length≤2:=by rw[←hsl,qX];exact hnl
 have hnl2:(c6 d).length=(bsD d).length:=by rw[←hsl,qX]
 simp (disch:=omega) [zz,hsl]
 refine AT.loop' (α:=Nat × Bool) (fun x=>St.of [(0,.av .ptr (.ptr B zJB [])),(1,.av (.slice 3) (.sl .no ((((bsD d).take x.1).foldl (crS d) (zJe,ps)).2.map fun n=>.i .i64 n))),(5,.av .ptr (.ptr B2 zJB [])),(14,.av TxS (.sl .no (strs (c6 d)))),(15,.av (.int .i64) (.i .i64 (bsD d).length)),(16,.av (.int .i64) (.i .i64 x.1))] [] (fun _=>0) (j4 B2 M2 x.2 (((bsD d).take x.1).foldl (crS d) (zJe,ps)).1++j4 B M o d))
  (fun x=>x.1≤(bsD d).length∧(((bsD d).take x.1).foldl (crS d) (zJe,ps)).1.left=-1∧(((bsD d).take x.1).foldl (crS d) (zJe,ps)).2.length≤1000000000) (fun x=>(bsD d).length-x.1) (0,false) ?_ ?_ ?_
 ·apply Le.of<;>simp[qU,qG,qO,qH,qP,qK,qF,qI,qJ,qN,]<;>try omega
 ·exact⟨by simp,rfl,hps⟩
 rintro⟨i,o2⟩ ⟨hi,hlf,hpl⟩ KL hN hE
 simp only at hi hlf hpl hN
 refine qM (cf:=cf0) laid mixed _ _ _ (by kernel_rfl) ?_
 by_cases hlt:i<(bsD d).length
 ·have hlt':(i:Int)<(bsD d).length:=by omega
  have hgn:(strs (c6 d))[i]?=some (.s (nmB (bsD d)[i])):=by
   rw[yH _ i (by rw[hnb,List.length_map];exact hlt)]
   simp[hnb]
  have hgl:i<(strs (c6 d)).length:=by omega
  have hgn2:(strs (c6 d))[i]'hgl=.s (nmB (bsD d)[i]):=by
   have:=hgn;rw[List.getElem?_eq_getElem hgl]at this;exact Option.some.inj this
  have hft:=zOD (crS d) (zJe,ps) (bsD d) i hlt
  obtain⟨x,hx⟩:∃x,x=((bsD d).take i).foldl (crS d) (zJe,ps):=⟨_,rfl⟩
  rw[←hx]at hft hlf hpl ⊢
  obtain⟨f,hf⟩:=zQI d _ (List.getElem_mem hlt)
  obtain⟨b,hb⟩:∃b,b=(bsD d)[i]:=⟨_,rfl⟩
  rw[←hb]at hgn hgn2 hft hf
  have hfd:=G6 o b d
  rw[hf]at hfd
  simp only[Option.map_some,flF]at hfd
  have hfo:=zOV hd hf
  unfold FOK at hfo
  have hfz:f.data.length≤1000000000000:=by
   cases b
   ·have:d.m=some f:=hf
    have h:=hz.1;rw[this]at h;exact h
   ·have:d.n=some f:=hf
    have h:=hz.2;rw[this]at h;exact h
  have hcs:crS d x b=(zJC b (some (zKX (x.2.headD 0) f)) x.1,w5 f x.2):=by unfold crS;rw[hf]
  obtain⟨xd,xp⟩:=x
  simp only at hlf hpl hcs
  by_cases hs:f.data.length≤f.sure
  ·have hs':¬(0:Int)<f.data.length-f.sure:=by omega
   have hlF:zKX (xp.headD 0) f=⟨f.data,f.data.length⟩:=by unfold zKX;rw[if_pos hs]
   have hrP:w5 f xp=xp:=by unfold w5;rw[if_pos hs]
   obtain⟨o3,hput⟩:=zKd o2 b xd ⟨f.data,f.data.length⟩
   simp only[flF]at hput
   have htk:f.data.take f.data.length=f.data:=List.take_of_length_le (Nat.le_refl _)
   rw[hlF,hrP]at hcs
   rw[hcs]at hft
   have hle2:=zLp b (some (⟨f.data,f.data.length⟩:FV)) xd
   simp (disch:=omega) [zz,hlt',hgn,hgn2,hgl,j4,flO,hfd,hs',hnd,hBM,hBM',hnl2,hlt,hs,htk,hput]
   (repeat with_reducible refine om ?_)
   refine hN _ (i+1,o3) ?_ ⟨by omega,by simp only[hft];rw[hle2];exact hlf,by simp only[hft];exact hpl⟩ (by simp only;omega)
   simp only[hft]
   apply Le.of<;>simp[qU,qG,qO,qH,qP,qK,qF,qI,qJ,qN,j4,flO,htk,hput,hnd,hle2]<;>try omega
  ·obtain⟨u,hu⟩:∃u,u=f.data.length-f.sure:=⟨_,rfl⟩
   have hs':(0:Int)<f.data.length-f.sure:=by omega
   have hlu:(f.data.length:Int)-f.sure=u:=by omega
   have hu1:¬(u:Int)+1=0:=by omega
   have hu0:0<u:=by omega
   have hu2:u≤1000000000000:=by omega
   cases xp with
   | nil =>
    have hlF:zKX (([]:List Int).headD 0) f=⟨f.data.take f.sure,f.sure⟩:=by unfold zKX;rw[if_neg hs];simp[zSj]
    have hrP:w5 f []=[]:=by unfold w5;rw[if_neg hs];rfl
    obtain⟨o3,hput⟩:=zKd o2 b xd ⟨f.data.take f.sure,f.sure⟩
    simp only[flF]at hput
    rw[hlF,hrP]at hcs
    rw[hcs]at hft
    have hle2:=zLp b (some (⟨f.data.take f.sure,f.sure⟩:FV)) xd
    simp (disch:=omega) [zz,hlt',hgn,hgn2,hgl,j4,flO,hfd,hs',hnd,hBM,hBM',hnl2,hlt,hs,hput,hlu,hu0,hu1]
    (repeat with_reducible refine om ?_)
    refine hN _ (i+1,o3) ?_ ⟨by omega,by simp only[hft];rw[hle2];exact hlf,by simp only[hft];exact hpl⟩ (by simp only;omega)
    simp only[hft]
    apply Le.of<;>simp[qU,qG,qO,qH,qP,qK,qF,qI,qJ,qN,j4,flO,hput,hnd,hle2]<;>try omega
   | cons p xp =>
    obtain⟨hp1,hnu,hp2,hp3⟩:=zPa p u
    obtain⟨n,hn⟩:∃n,n=zK3 p u:=⟨_,rfl⟩
    rw[←hn]at hp1 hnu
    have hlF:zKX ((p::xp).headD 0) f=⟨f.data.take (f.sure+n),f.sure+n⟩:=by unfold zKX;rw[if_neg hs,hn,hu];rfl
    have hrP:w5 f (p::xp)=xp:=by unfold w5;rw[if_neg hs];rfl
    obtain⟨o3,hput⟩:=zKd o2 b xd ⟨f.data.take (f.sure+n),f.sure+n⟩
    simp only[flF]at hput
    rw[hlF,hrP]at hcs
    rw[hcs]at hft
    have hle2:=zLp b (some (⟨f.data.take (f.sure+n),f.sure+n⟩:FV)) xd
    have hts:((f.sure:Int)+n).toNat=f.sure+n:=by omega
    simp only[List.length_cons]at hpl
    simp only[Int.natCast_add]at hput
    have htx:(xp.map fun n=>AV.i .i64 n).take xp.length=xp.map fun n=>AV.i .i64 n:=List.take_of_length_le (by simp)
    simp (disch:=omega) [zz,hlt',hgn,hgn2,hgl,j4,flO,hfd,hs',hnd,hBM,hBM',hnl2,hlt,hs,hput,hlu,hu0,hu1,hp1,hts,htx]
    (repeat with_reducible refine om ?_)
    refine hN _ (i+1,o3) ?_ ⟨by omega,by simp only[hft];rw[hle2];exact hlf,by simp only[hft];omega⟩ (by simp only;omega)
    simp only[hft]
    apply Le.of<;>simp[qU,qG,qO,qH,qP,qK,qF,qI,qJ,qN,j4,flO,hput,hnd,hle2]<;>try omega
 ·have hie:i=(bsD d).length:=by omega
  subst hie
  have hlt':¬((bsD d).length:Int)<(bsD d).length:=by omega
  simp (disch:=omega) [zz,hlt']
  refine hE _ _ (by simp) ?_
  rw[zRI]
  simp (disch:=omega) [zz,Tryz.f17,CrR.of hMB2,zKy]
end Go.Proofs.YtcioeonlclpacaaGreatDoor
end
