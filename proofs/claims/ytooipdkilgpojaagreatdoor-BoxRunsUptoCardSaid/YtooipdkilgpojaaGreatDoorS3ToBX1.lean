/- The document's SHA-256: the whole text, the sum. No condition beyond each theorem's own. -/
import Derived.Test.YtooipdkilgpojaaGreatDoorPZToS2
import Derived.Test.YtooipdkilgpojaaGreatDoorK20ToK21
set_option linter.unusedSimpArgs false
set_option linter.unusedVariables false
set_option linter.unusedSectionVars false
section
set_option maxRecDepth 100000
namespace Go.Proofs.YtooipdkilgpojaaGreatDoor
open Go Go.Ab
open Classical
variable [Sel]
@[simp] theorem zko:qZ Tryz.prog 106=true:=by kernel_rfl
@[simp] theorem zqt:z8 Tryz.prog (.func 106)=false:=q9 zko
@[simp] theorem zoy:qZ Tryz.prog 63=true:=by kernel_rfl
@[simp] theorem zrF:z8 Tryz.prog (.func 63)=false:=q9 zoy
abbrev K3 (b:UInt8):AV:=.i .u8 b.toNat
def xD (n:Nat):Nat:=(55+64-n % 64) % 64
theorem zba (n:Nat):(n+1+xD n) % 64=56:=by unfold xD;omega
theorem zgX {n k:Nat} (h:k<xD n):(n+1+k) % 64≠56:=by unfold xD at h;omega
theorem zm1 (n:Nat):xD n<64:=by unfold xD;omega
def W9 (n:Nat):List UInt8:=[UInt8.ofNat (n*8 / 2 ^ 56),UInt8.ofNat (n*8 / 2 ^ 48),UInt8.ofNat (n*8 / 2 ^ 40),UInt8.ofNat (n*8 / 2 ^ 32),UInt8.ofNat (n*8 / 2 ^ 24),UInt8.ofNat (n*8 / 2 ^ 16),UInt8.ofNat (n*8 / 2 ^ 8),UInt8.ofNat (n*8)]
def K2 (l:List UInt8):List UInt8:=l++[128]++List.replicate (xD l.length) 0++W9 l.length
theorem zeC (l:List UInt8):(K2 l).length % 64=0:=by
 have:=zba l.length
 simp[K2,W9];omega
theorem zDR (l:List UInt8):(K2 l).length≤l.length+80:=by
 have:=zm1 l.length
 simp[K2,W9];omega

theorem zhj (N:Nat):∀j,j<8→(W9 N).take (8-j)=(W9 N).take (7-j)++[UInt8.ofNat (N*8 / 2 ^ (8*j))]
 | 0,_=>by simp[W9]|1,_=>by simp[W9]|2,_=>by simp[W9]|3,_=>by simp[W9]|4,_=>by simp[W9]|5,_=>by simp[W9]|6,_=>by simp[W9]|7,_=>by simp[W9]
 | j+8,h=>by omega
theorem znm (m:Nat):IntKind.u8.wrap (m:Int)=((UInt8.ofNat m).toNat:Int):=by
 simp[IntKind.wrap,IntKind.signed,IntKind.bits]
theorem zei {n:Int} (h0:0≤n) (h1:n<18446744073709551616):IntKind.u64.wrap n=n:=by
 simp[IntKind.wrap,IntKind.signed,IntKind.bits];omega
theorem zpG (n k:Nat) (h:k<64):((n:Int)).fdiv (2 ^ (min k IntKind.u64.bits))=((n / 2 ^ k:Nat):Int):=by
 rw[show min k IntKind.u64.bits=k by simp[IntKind.bits];omega,Int.fdiv_eq_ediv_of_nonneg _ (Int.le_of_lt (Int.pow_pos (by omega)))]
 norm_cast
theorem zdJ:K3 128=.i .u8 128:=rfl
theorem zbY:K3 0=.i .u8 0:=rfl
set_option maxHeartbeats 1000000 in
theorem zDT (l:List UInt8) (hl:l.length≤1000000000000):PC Tryz.prog 106 [.av .str (.s l)] (.av (.slice 5) (X1 (K2 l))):=by
 have hp:=zm1 l.length
 refine zow Tryz.func106 cf0 fun imm0 w0=>?_
 simp (disch:=omega) [zz,wB]
 (repeat with_reducible refine om ?_)
 refine AT.loopV (α:=Nat × Nat) (fun k ver=>St.of [(0,.av .str (.s l)),(3,.av (.slice 5) (.sl (.own k.2 (ver k.2)) ((l++[128]++List.replicate k.1 0).map K3)))] [] ver [])
  (fun k=>k.1≤xD l.length) (fun k=>xD l.length-k.1) (0,10) ?h0 ?h1 ?h2
 case h0=>apply Le.of<;>simp[qU,qG,qO,qH,qP,qK,qF,qI,qJ,qN,zdJ]<;>try omega
 case h1=>simp
 case h2 =>
  rintro⟨k,tk⟩ ver hk KL hN hE
  simp only at hk hN
  refine qM (cf:=cf0) laid mixed _ _ _ (by kernel_rfl) ?_
  have hlen:((l.length:Int)+((k:Int)+1)).tmod 64=(((l.length+1+k) % 64:Nat):Int):=by
   rw[Int.tmod_eq_emod_of_nonneg (by omega)];omega
  by_cases hkt:k<xD l.length
  ·have hne:=zgX hkt
   have hne':¬((l.length:Int)+((k:Int)+1)).tmod 64=56:=by rw[hlen];omega
   simp (disch:=omega) [zz,wB,hne']
   (repeat with_reducible refine om ?_)
   refine hN _ (k+1,17) ?_ (by first|omega|(simp;done)|(simp;omega)) (by first|omega|(simp;done)|(simp;omega));apply Le.of<;>simp[qU,qG,qO,qH,qP,qK,qF,qI,qJ,qN,List.replicate_succ',zbY,zdJ]<;>try omega
  ·have hke:k=xD l.length:=by omega
   subst hke
   have hsp:=zba l.length
   have hne':((l.length:Int)+((xD l.length:Int)+1)).tmod 64=56:=by rw[hlen];omega
   simp (disch:=omega) [zz,hne']
   refine hE _ _ (by simp) ?_
   simp (disch:=omega) [zz,zei]
   refine AT.loopV (α:=Nat × Nat) (fun k ver=>St.of [(3,.av (.slice 5) (.sl (.own k.2 (ver k.2)) ((l++[128]++List.replicate (xD l.length) 0++(W9 l.length).take (8-k.1)).map K3))),(4,.av (.int .u64) (.i .u64 ((l.length*8:Nat):Int))),(5,.av (.int .i64) (.i .i64 ((k.1:Int)-1)))] [] ver [])
    (fun k=>k.1≤8) (fun k=>k.1) (8,tk) ?g0 ?g1 ?g2
   case g0=>apply Le.of<;>simp[qU,qG,qO,qH,qP,qK,qF,qI,qJ,qN]<;>try omega
   case g1=>simp
   case g2 =>
    rintro⟨j,tk2⟩ ver2 hj KL2 hN2 hE2
    simp only at hj hN2
    refine qM (cf:=cf0) laid mixed _ _ _ (by kernel_rfl) ?_
    cases j with
    | zero =>
     simp (disch:=omega) [zz]
     refine hE2 _ _ (by simp) ?_
     simp (disch:=omega) [zz,Tryz.f106]
     rw[show (List.map K3 l++K3 128::(List.replicate (xD l.length) (K3 0)++List.take 8 (List.map K3 (W9 l.length))))=(K2 l).map K3 by simp[K2,W9]]
     simp[X1,AV.ers_eq,AV.er,Function.comp_def]
    | succ j =>
     have hlb:(W9 l.length).length=8:=rfl
     have hst:=zhj l.length j (by omega)
     have e3:=zpG (l.length*8) (8*j) (by omega)
     have hst':((W9 l.length).map K3).take (8-j)=((W9 l.length).map K3).take (7-j)++[K3 (UInt8.ofNat (l.length*8 / 2 ^ (8*j)))]:=by
      rw[←List.map_take,hst,List.map_append,List.map_take];rfl
     have e8:=znm (l.length*8 / 2 ^ (8*j))
     simp at e8
     have hge:(0:Int)≤(j:Int):=by omega
     push_cast at e3
     simp (disch:=omega) [zz,wB,e3,znm,hge]
     (repeat with_reducible refine om ?_)
     refine hN2 _ (j,33) ?_ (by first|omega|(simp;done)|(simp;omega)) (by first|omega|(simp;done)|(simp;omega));apply Le.of<;>simp[qU,qG,qO,qH,qP,qK,qF,qI,qJ,qN,hst',e8]<;>try omega

def QA (t:List UInt8):Nat→List UInt32
 | 0=>h8
 | n+1=>jR (QA t n) ((t.drop (64*n)).take 64)
theorem gT (t:List UInt8):∀n,(QA t n).length=8
 | 0=>rfl
 | n+1=>KJ (gT t n)
def WM (h:List UInt32):List UInt8:=(List.range 32).map fun i=>(h.getD (i/4) 0 >>> UInt32.ofNat (24-8*(i%4))).toUInt8
def sha (l:List UInt8):List UInt8:=WM (QA (K2 l) ((K2 l).length / 64))
theorem zdN (h:List UInt32):(WM h).length=32:=by simp[WM]
theorem zmR (d:List UInt8):KW d=.agg (d.map K3):=rfl

set_option maxHeartbeats 1000000 in
theorem zEi (l:List UInt8) (hl:l.length≤1000000000000):PC Tryz.prog 63 [.av .str (.s l)] (.av (qD Tryz.prog 69) (KW (sha l))):=by
 obtain⟨t,ht⟩:∃t,K2 l=t:=⟨_,rfl⟩
 have htl:t.length≤1000000000080:=by have:=zDR l;rw[ht]at this;omega
 have htm:t.length % 64=0:=by have:=zeC l;rw[ht]at this;omega
 obtain⟨M,hM⟩:∃M,t.length=64*M:=⟨t.length / 64,by omega⟩
 have hbe:X1 t=.sl .no (t.map fun b=>.i .u8 b.toNat):=rfl
 refine zow Tryz.func63 cf0 fun imm0 w0=>?_
 simp (disch:=omega) [zz]
 refine zcv (zDT l hl) ?_
 rw[ht]
 simp (disch:=omega) [zz]
 refine AT.loopV (α:=Nat) (fun k ver=>St.of [(2,.loc 2 []),(3,.av (.slice 174) (.sl .no ((QA t k).map w6))),(4,.av (.slice 5) (X1 t)),(5,.av (.int .i64) (.i .i64 (64*k:Nat)))] [(2,(qD Tryz.prog 69,.agg (List.replicate 32 (.i .u8 0))))] ver [])
  (fun k=>64*k≤t.length) (fun k=>M-k) 0 ?_ ?_ ?_
 ·apply Le.of<;>simp[qU,qG,qO,qH,qP,qK,qF,qI,qJ,qN,QA,h8,wi]<;>try omega
 ·simp
 ·rintro k ver hk KL hN hE
  have hkl:=gT t k
  refine qM (cf:=cf0) laid mixed _ _ _ (by kernel_rfl) ?_
  by_cases hlt:64*k<t.length
  ·have e1:List.drop (64*k) (List.take (64*k+64) t)=(t.drop (64*k)).take 64:=by rw[List.drop_take];congr 1;omega
   have hlt':64*(k:Int)<t.length:=by omega
   simp (disch:=omega) [zz,hbe,hlt']
   (repeat with_reducible refine om ?_)
   refine qL (zDO (QA t k) ((t.drop (64*k)).take 64) hkl (by simp;omega)) rfl rfl (by simp) ?_ ?_
   ·simp[qS,TV.er,AV.er,AV.ers_eq,Function.comp_def,X1,List.drop_take]
   ·simp (disch:=omega) [zz]
    refine hN _ (k+1) ?_ (by first|omega|(simp;done)|(simp;omega)) (by first|omega|(simp;done)|(simp;omega));apply Le.of<;>simp[qU,qG,qO,qH,qP,qK,qF,qI,qJ,qN,QA,hbe]<;>try omega
  ·obtain rfl:k=M:=by omega
   have hlt':¬64*(k:Int)<t.length:=by omega
   simp (disch:=omega) [zz,hbe,hlt']
   refine hE _ _ (by simp) ?_
   simp (disch:=omega) [zz]
   have hdk:(K2 l).length / 64=k:=by rw[ht,hM];omega
   have hsha:sha l=WM (QA t k):=by rw[sha,hdk,ht]
   obtain⟨D,hD⟩:∃D,WM (QA t k)=D:=⟨_,rfl⟩
   have hDl:D.length=32:=by rw[←hD];exact zdN _
   refine AT.loopV (α:=Nat) (fun j ver=>St.of [(2,.loc 2 []),(3,.av (.slice 174) (.sl .no ((QA t k).map w6))),(6,.loc 6 []),(7,.av (.int .i64) (.i .i64 j))] [(2,(qD Tryz.prog 69,.agg (List.replicate 32 (.i .u8 0)))),(6,(qD Tryz.prog 69,.agg ((D.take j++List.replicate (32-j) 0).map K3)))] ver [])
    (fun j=>j≤32) (fun j=>32-j) 0 ?_ ?_ ?_
   ·apply Le.of<;>simp[qU,qG,qO,qH,qP,qK,qF,qI,qJ,qN,zbY]<;>try omega
   ·simp
   ·rintro j ver2 hj KL2 hN2 hE2
    refine qM (cf:=cf0) laid mixed _ _ _ (by kernel_rfl) ?_
    by_cases hjt:j<32
    ·obtain⟨q,hq⟩:∃q:Nat,j / 4=q:=⟨_,rfl⟩
     obtain⟨r,hr⟩:∃r:Nat,j % 4=r:=⟨_,rfl⟩
     have hq':(j:Int).tdiv 4=(q:Int):=by rw[Int.tdiv_eq_ediv_of_nonneg (by omega)];omega
     have hr':(j:Int).tmod 4=(r:Int):=by rw[Int.tmod_eq_emod_of_nonneg (by omega)];omega
     have hjt':(j:Int)<32:=by omega
     obtain⟨x,hx⟩:∃x,(QA t k)[q]?=some x:=⟨_,List.getElem?_eq_getElem (by omega)⟩
     have hDj:D[j]?=some (x >>> UInt32.ofNat (24-8*r)).toUInt8:=by
      rw[←hD]
      simp[WM,hjt,hq,hr,hx]
     have j1:((D.take j++List.replicate (32-j) 0).map K3).set j (K3 (x >>> UInt32.ofNat (24-8*r)).toUInt8)=(D.take (j+1)++List.replicate (32-(j+1)) 0).map K3:=by
      rw[←List.map_set,List.take_add_one,hDj,show 32-j=(32-(j+1))+1 by omega,List.replicate_succ]
      simp[List.set_append_right,hDl,Nat.min_eq_left (Nat.le_of_lt hjt)]
     generalize QA t k=H at *
     have hy:=zrH (x >>> UInt32.ofNat (24-8*r))
     generalize (x >>> UInt32.ofNat (24-8*r)).toUInt8=y at *
     have gx:∀g:q<H.length,H[q]=x:=fun g=>by rw[List.getElem?_eq_getElem g]at hx;simpa using hx
     simp (disch:=omega) [zz,hjt',hq',hr',gx,uU,hy]
     (repeat with_reducible refine om ?_)
     simp only[List.map_append,List.map_take,List.map_replicate,zbY]at j1
     refine hN2 _ (j+1) ?_ (by first|omega|(simp;done)|(simp;omega)) (by first|omega|(simp;done)|(simp;omega));apply Le.of<;>simp[qU,qG,qO,qH,qP,qK,qF,qI,qJ,qN,j1,zbY]<;>try omega
    ·obtain rfl:j=32:=by omega
     simp (disch:=omega) [zz]
     refine hE2 _ _ (by simp) ?_
     simp (disch:=omega) [zz,Tryz.f63]
     rw[hsha,hD,zmR,List.take_of_length_le (by simp[hDl])]
     simp[AV.ers_eq,Function.comp_def,AV.er]
end Go.Proofs.YtooipdkilgpojaaGreatDoor
end
section
set_option maxRecDepth 100000
namespace Go.Proofs.YtooipdkilgpojaaGreatDoor
open Go Go.Ab
open Classical
variable [Sel] [SelPow] [SelMax]
structure zGo where
 run:y3
 outs:List Txt
 may:Txt→Bool
 wrote:List (Txt × Txt)
 reads:List XF
 asks:Txt
 over:Bool
 why:Int
def J9 (k:KnV):XF:=⟨k.path,k.is,if k.is=true then sha k.data else zc4⟩
def QM (e:Int) (b:zGo):zGo:={ b with over:=true,why:=e }
def JA (p d:Txt) (b:zGo):zGo :=
 if p∈b.wrote.map (·.1)∨p∉b.outs then QM 14 b else { b with wrote:=b.wrote++[(p,d)] }
def YU (b:zGo):Bool:=b.outs.any fun p=>decide (p∉b.wrote.map (·.1))
noncomputable def roundB (b:zGo):zGo × Bool :=
 let d:=(w9 b.run).1
 let b':={ b with run:=(w9 b.run).2 }
 if d.kind=1 then(if b.may d.path=true then({ b' with asks:=d.path },true) else(QM 13 b',false))
 else if d.kind=2 then(JA d.path d.data b',false)
 else if d.kind=3 then(if YU b=true then(QM 14 b',false) else({ b' with over:=true },false))
 else(QM d.why b',false)
noncomputable def goN:Nat→zGo→Option zGo
 | 0,_=>none
 | n+1,b=>if b.over=true then some b else if (roundB b).2=true then some (roundB b).1 else goN n (roundB b).1
noncomputable def yQ (b:zGo):zGo:=(goN (ccR b.run+2) b).getD b
noncomputable def kB (k:KnV) (b:zGo):Int × zGo :=
 if b.over=true then(19,b) else if k.path≠b.asks then(1,b) else if k.is=true∧65536<k.data.length then(6,b)
 else(0,yQ { b with reads:=b.reads++[J9 k],run:=(QB k b.run).2 })
noncomputable def ZH (b:zGo):List U1:=(kK (b.wrote.map (·.1))).map fun p=>⟨p,((b.wrote.find? fun x=>decide (x.1=p)).getD ([],[])).2⟩
noncomputable def yD (b:zGo):zcy × Bool :=
 if b.over=false then(⟨0,0,[],[]⟩,false)
 else if b.why=0 then(⟨1,0,ZH b,b.reads⟩,true)
 else(⟨2,b.why,[],b.reads⟩,true)
def pdW (d:DoV):Txt × Txt:=(d.path,d.data)
structure zhg (env:List (Txt × Txt)) (c0:CfV) (kn:List KnV) (outs:List Txt) (may:Txt→Bool) (wr:List DoV) (b:zGo):Prop where
 at_:AtR env c0 kn wr b.run
 no2:b.run.over.kind≠2
 wrote:b.wrote=wr.map pdW
 nod:(wr.map (·.path)).Nodup
 own:∀w∈wr,w.path∈outs
 outs:b.outs=outs
 may:b.may=may
 reads:b.reads=kn.map J9
 over:b.over=false
 why:b.why=0
inductive zf6 (env:List (Txt × Txt)) (c0:CfV) (kn:List KnV) (outs:List Txt) (may:Txt→Bool) (wr:List DoV) (b:zGo):Prop
 | waits (d:DoV):JB env c0 kn wr b.run d→d.kind=1→may d.path=true→b.run.waits=true→b.asks=d.path→b.asks=b.run.asks→b.over=false→b.why=0→zf6 env c0 kn outs may wr b
 | read (d:DoV):JB env c0 kn wr b.run d→d.kind=1→may d.path=false→b.over=true→b.why=13→zf6 env c0 kn outs may wr b
 | ended (d:DoV):JB env c0 kn wr b.run d→d.kind=3→(∀p∈outs,p∈wr.map (·.path))→b.over=true→b.why=0→zf6 env c0 kn outs may wr b
 | short (d:DoV):JB env c0 kn wr b.run d→d.kind=3→¬(∀p∈outs,p∈wr.map (·.path))→b.over=true→b.why=14→zf6 env c0 kn outs may wr b
 | failed (d:DoV):JB env c0 kn wr b.run d→d.kind=4→d.why≠0→b.over=true→b.why=d.why→zf6 env c0 kn outs may wr b
 | wrote (d:DoV):AtR env c0 kn (wr++[d]) b.run→(d.path∈wr.map (·.path)∨d.path∉outs)→b.over=true→b.why=14→zf6 env c0 kn outs may wr b
structure WY (env:List (Txt × Txt)) (c0:CfV) (kn:List KnV) (outs:List Txt) (may:Txt→Bool) (wr:List DoV) (b:zGo):Prop where
 e:zf6 env c0 kn outs may wr b
 wrote:b.wrote=wr.map pdW
 nod:(wr.map (·.path)).Nodup
 own:∀w∈wr,w.path∈outs
 outs:b.outs=outs
 may:b.may=may
 reads:b.reads=kn.map J9
theorem GC {wr:List DoV} {l:List (Txt × Txt)} (h:l=wr.map pdW):l.map (·.1)=wr.map (·.path):=by
 simp_all[pdW]
theorem JB.ov {env:List (Txt × Txt)} {c0:CfV} {kn:List KnV} {wr:List DoV} {r:y3} {d:DoV} (h:JB env c0 kn wr r d):d.kind=1∧r.waits=true∧d.path=r.asks∨d.kind=3∧d=⟨3,[],[],0⟩∨d.kind=4∧d.why≠0:=by
 by_cases hw:r.waits=true
 ·exact .inl ⟨h.waits.2 hw,hw,by rw[h.asks hw]⟩
 ·have hw':r.waits=false:=by simp_all
  have hd:=h.over hw'
  have hst:=h.stops
  have hk0:r.over.kind≠0:=by
   simp_all[kL]
  rcases h.at_.ov.1 with h1|⟨h1,_⟩|h1|⟨h1,h2⟩
  ·rw[h1]at hk0;exact absurd rfl hk0
  ·exact absurd h1 h.no2
  ·simp_all
  simp_all
theorem zin {env:List (Txt × Txt)} {c0:CfV} {kn:List KnV} {outs:List Txt} {may:Txt→Bool} {wr:List DoV} {b:zGo} (h:zhg env c0 kn outs may wr b) :
  (∃d,zhg env c0 kn outs may (wr++[d]) (roundB b).1∧(roundB b).2=false∧ccR (roundB b).1.run<ccR b.run)∨(WY env c0 kn outs may wr (roundB b).1∧((roundB b).2=true∨(roundB b).1.over=true)):=by
 have hwp:=GC h.wrote
 obtain⟨d,hd⟩:∃d,d=(w9 b.run).1:=⟨_,rfl⟩
 obtain⟨r',hr'⟩:∃r',r'=(w9 b.run).2:=⟨_,rfl⟩
 have hn:=h.at_.next h.no2
 rw[←hd,←hr']at hn
 unfold roundB
 simp only[←hd,←hr']
 rcases hn with⟨h1,h2,h3,h4⟩|hs
 ·rw[if_neg (by omega),if_pos h1]
  unfold JA
  simp only[hwp,h.outs]
  by_cases hb:d.path∈wr.map (·.path)∨d.path∉outs
  ·rw[if_pos hb]
   right
   exact⟨⟨.wrote d h2 hb rfl rfl,h.wrote,h.nod,h.own,rfl,h.may,h.reads⟩,.inr rfl⟩
  ·rw[if_neg hb]
   left
   have hb1:d.path∉wr.map (·.path):=fun e=>hb (.inl e)
   have hb2:d.path∈outs:=Classical.byContradiction fun e=>hb (.inr e)
   refine⟨d,⟨h2,by simp_all,by simp only[h.wrote,List.map_append];rfl,?_,?_,rfl,h.may,h.reads,h.over,h.why⟩,trivial,h3⟩
   ·rw[List.map_append]
    refine List.nodup_append.2 ⟨h.nod,by simp,fun a ha c hc=>?_⟩
    grind
   ·intro w hw
    rcases List.mem_append.1 hw with hw|hw
    ·exact h.own w hw
    simp_all
 ·right
  rcases hs.ov with⟨h1,h2,h3⟩|⟨h1,h2⟩|⟨h1,h2⟩
  ·rw[if_pos h1,h.may]
   by_cases hm:may d.path=true
   ·rw[if_pos hm]
    exact⟨⟨.waits d hs h1 hm h2 rfl h3 h.over h.why,h.wrote,h.nod,h.own,h.outs,rfl,h.reads⟩,.inl rfl⟩
   ·rw[if_neg hm]
    exact⟨⟨.read d hs h1 (by simp_all) rfl rfl,h.wrote,h.nod,h.own,h.outs,rfl,h.reads⟩,.inr rfl⟩
  ·rw[if_neg (by omega),if_neg (by omega),if_pos h1]
   have hl:YU b=true↔¬∀p∈outs,p∈wr.map (·.path):=by
    unfold YU
    rw[hwp,h.outs]
    simp
   by_cases hm:YU b=true
   ·rw[if_pos hm]
    exact⟨⟨.short d hs h1 (hl.1 hm) rfl rfl,h.wrote,h.nod,h.own,h.outs,h.may,h.reads⟩,.inr rfl⟩
   ·rw[if_neg hm]
    exact⟨⟨.ended d hs h1 (Classical.byContradiction fun e=>hm (hl.2 e)) rfl h.why,h.wrote,h.nod,h.own,h.outs,h.may,h.reads⟩,.inr rfl⟩
  ·rw[if_neg (by omega),if_neg (by omega),if_neg (by omega)]
   exact⟨⟨.failed d hs h1 h2 rfl rfl,h.wrote,h.nod,h.own,h.outs,h.may,h.reads⟩,.inr rfl⟩
theorem znb {env:List (Txt × Txt)} {c0:CfV} {kn:List KnV} {outs:List Txt} {may:Txt→Bool}:∀(n:Nat) {wr:List DoV} {b:zGo},zhg env c0 kn outs may wr b→ccR b.run<n→∃b' m,goN (n+1) b=some b'∧WY env c0 kn outs may (wr++m) b'
 | 0,_,_,_,h=>absurd h (Nat.not_lt_zero _)
 | n+1,wr,b,h,hc=>by
  rw[goN,if_neg (by rw[h.over];decide)]
  rcases zin h with⟨d,h1,h2,h3⟩|⟨h1,h2⟩
  ·rw[if_neg (by simp_all)]
   obtain⟨b',m,h4,h5⟩:=znb n h1 (by omega)
   grind
  ·by_cases h3:(roundB b).2=true
   ·rw[if_pos h3];exact⟨_,[],rfl,by simp_all⟩
   ·rw[if_neg h3,goN,if_pos (h2.resolve_left h3)]
    exact⟨_,[],rfl,by simp_all⟩
theorem V7 {env:List (Txt × Txt)} {c0:CfV} {kn:List KnV} {outs:List Txt} {may:Txt→Bool} {wr:List DoV} {b:zGo} (h:zhg env c0 kn outs may wr b):goN (ccR b.run+2) b=some (yQ b)∧∃m,WY env c0 kn outs may (wr++m) (yQ b):=by
 obtain⟨b',m,h1,h2⟩:=znb (ccR b.run+1) h (by omega)
 grind [yQ]
theorem WY.tell {env:List (Txt × Txt)} {c0:CfV} {kn:List KnV} {outs:List Txt} {may:Txt→Bool} {wr:List DoV} {b:zGo} (h:WY env c0 kn outs may wr b) (ho:b.over=false) (k:KnV) (hp:k.path=b.asks) (hd:k.is=true→k.data.length≤65536) :
  zhg env c0 (kn++[k]) outs may wr { b with reads:=b.reads++[J9 k],run:=(QB k b.run).2 }∧(QB k b.run).1=0:=by
 cases h.e with
 | waits d hs h1 hm hw ha ha2 h3 h4 =>
  obtain⟨g1,g2,g3,_⟩:=hs.give k hw (hp.trans ha2) hd
  exact⟨⟨g2,by simp_all,h.wrote,h.nod,h.own,h.outs,h.may,by simp only[h.reads,List.map_append];rfl,h3,h4⟩,g1⟩
 | read d _ _ _ h3 _=>simp_all
 | ended d _ _ _ h3 _=>simp_all
 | short d _ _ _ h3 _=>simp_all
 | failed d _ _ _ h3 _=>simp_all
 | wrote d _ _ h3 _=>simp_all
theorem AtR.s {env:List (Txt × Txt)} {c0:CfV} {kn:List KnV} {wr:List DoV} {r:y3} (h:AtR env c0 kn wr r):kn.length≤500:=by
 have hk:r.known.length≤500:=by
  rcases h.inv with⟨g,_⟩|⟨_,_,_,_,g,_⟩
  ·exact g.nk
  ·exact g.nk
 rw[h.kno]at hk;exact hk
theorem WY.len {env:List (Txt × Txt)} {c0:CfV} {kn:List KnV} {outs:List Txt} {may:Txt→Bool} {wr:List DoV} {b:zGo} (h:WY env c0 kn outs may wr b):kn.length≤500:=by
 cases h.e with
 | waits d hs=>exact hs.at_.s
 | read d hs=>exact hs.at_.s
 | ended d hs=>exact hs.at_.s
 | short d hs=>exact hs.at_.s
 | failed d hs=>exact hs.at_.s
 | wrote d hs=>exact hs.s
theorem WY.asks {env:List (Txt × Txt)} {c0:CfV} {kn:List KnV} {outs:List Txt} {may:Txt→Bool} {wr:List DoV} {b:zGo} (h:WY env c0 kn outs may wr b) (ho:b.over=false):may b.asks=true∧zQ kn b.asks=none∧b.why=0:=by
 cases h.e with
 | waits d hs h1 hm hw ha ha2 h3 h4 =>
  refine⟨by simp_all,?_,h4⟩
  rcases hs.at_.inv with⟨_,h2⟩|⟨l,k,p,e,g2,g3,g4,_⟩
  ·simp_all
  ·obtain⟨q1,q2,_⟩:=g4 hw
   rw[ha2,q1,←hs.at_.kno];exact q2
 | read d _ _ _ h3 _=>simp_all
 | ended d _ _ _ h3 _=>simp_all
 | short d _ _ _ h3 _=>simp_all
 | failed d _ _ _ h3 _=>simp_all
 | wrote d _ _ h3 _=>simp_all
theorem WY.give {env:List (Txt × Txt)} {c0:CfV} {kn:List KnV} {outs:List Txt} {may:Txt→Bool} {wr:List DoV} {b:zGo} (h:WY env c0 kn outs may wr b) (ho:b.over=false) (k:KnV) (hp:k.path=b.asks) (hd:k.is=true→k.data.length≤65536) :
  (kB k b).1=0∧∃m,WY env c0 (kn++[k]) outs may (wr++m) (kB k b).2:=by
 have h1:=(h.tell ho k hp hd).1
 simp_all[kB,if_neg,V7]
noncomputable def goL (known:List KnV):Nat→zGo→Option zGo
 | 0,_=>none
 | n+1,b=>if b.over=true then some b else match zQ known b.asks with
  | none=>some b
  | some k=>goL known n (kB k b).2
structure zeF (known kn:List KnV) (may:Txt→Bool):Prop where
 each:∀k∈kn,zQ known k.path=some k
 nod:(kn.map (·.path)).Nodup
 may:∀k∈kn,may k.path=true
theorem zno {env:List (Txt × Txt)} {c0:CfV} {outs:List Txt} {may:Txt→Bool} {known:List KnV} (hd:∀k∈known,k.data.length≤65536):∀(n:Nat) {kn:List KnV} {wr:List DoV} {b:zGo},WY env c0 kn outs may wr b→zeF known kn may→500-kn.length<n→
  ∃b' kn' wr',goL known n b=some b'∧WY env c0 kn' outs may wr' b'∧zeF known kn' may∧(b'.over=true∨zQ known b'.asks=none)∧kn <+: kn'
 | 0,_,_,_,_,_,h=>absurd h (Nat.not_lt_zero _)
 | n+1,kn,wr,b,h,ht,hn=>by
  rw[goL]
  by_cases ho:b.over=true
  ·grind
  rw[if_neg ho]
  have ho':b.over=false:=by simp_all
  cases hf:zQ known b.asks with
  | none=>grind
  | some k =>
   simp only
   obtain⟨hk1,hk2⟩:=KP hf
   obtain⟨hm,hnk,_⟩:=h.asks ho'
   obtain⟨_,m,hg⟩:=h.give ho' k hk2 (fun _=>hd k hk1)
   have ht2:zeF known (kn++[k]) may:=by
    refine⟨fun x hx=>?_,?_,fun x hx=>?_⟩
    ·rcases List.mem_append.1 hx with hx|hx
     ·exact ht.each x hx
     simp_all
    ·rw[List.map_append]
     refine List.nodup_append.2 ⟨ht.nod,by simp,fun a ha c hc=>?_⟩
     grind [uZ]
    ·rcases List.mem_append.1 hx with hx|hx
     ·exact ht.may x hx
     simp_all
   have hl:=hg.len
   simp only[List.length_append,List.length_cons,List.length_nil]at hl
   obtain⟨b',kn',wr',g1,g2,g3,g4,g5⟩:=zno hd n hg ht2 (by grind)
   grind
theorem WY.out {env:List (Txt × Txt)} {c0:CfV} {kn:List KnV} {outs:List Txt} {may:Txt→Bool} {wr:List DoV} {b:zGo} (h:WY env c0 kn outs may wr b) (ho:b.over=true):(b.why=0∧∀p∈outs,p∈wr.map (·.path))∨b.why≠0:=by
 cases h.e with
 | waits d _ _ _ _ _ _ h3 _=>simp_all
 | read d _ _ _ _ h4=>omega
 | ended d _ _ h2 _ h4=>simp_all
 | short d _ _ _ _ h4=>omega
 | failed d _ _ h2 _ h4=>omega
 | wrote d _ _ _ h4=>omega
/-! ### a box ahead of its first step -/
noncomputable def CE (env:List (Txt × Txt)) (outs:List Txt) (may:Txt→Bool) (cs:List CmdV):zGo:=⟨⟨(cs.reverse).map .cmd,env,[],[],[],false,do0,[]⟩,outs,may,[],[],[],false,0⟩
noncomputable def ZR (env:List (Txt × Txt)) (outs:List Txt) (may:Txt→Bool) (cs:List CmdV):zGo:=yQ (CE env outs may cs)
def C9 (cs:List CmdV):CfV:=⟨cs.map .cmd,st0,[]⟩
theorem zak (env:List (Txt × Txt)) (cs:List CmdV) (hl:cs.length≤400):JF ⟨(cs.reverse).map .cmd,env,[],[],[],false,do0,[]⟩:=by
 refine .inl ⟨⟨⟨(cs.reverse).map .cmd,[],by simp,fun t ht=>?_,by simp⟩,?_,?_,by simp,by simp,by simp⟩,rfl⟩
 ·obtain⟨c,_,rfl⟩:=List.mem_map.1 ht
  rfl
 ·have hs:Y6 ([]:List KnV) ((cs.reverse).map .cmd)=0:=u6 _ _ fun t ht=>by
   obtain⟨c,_,rfl⟩:=List.mem_map.1 ht
   rfl
  simp_all[YN]
 grind [List.countP_le_length]
theorem zeZ (env:List (Txt × Txt)) (outs:List Txt) (may:Txt→Bool) (cs:List CmdV) (hl:cs.length≤400):zhg env (C9 cs) [] outs may [] (CE env outs may cs):=by
 refine⟨⟨zak env cs hl,⟨.inl rfl,fun _=>rfl⟩,rfl,rfl,fun kn' _=>?_⟩,by show (0:Int)≠2;decide,rfl,by simp,by simp,rfl,rfl,rfl,rfl,rfl⟩
 have:jV [] (CE env outs may cs).run=C9 cs:=by
  simp[jV,CE,C9,st0,do0]
 rw[this];exact .refl _
theorem zec (env:List (Txt × Txt)) (outs:List Txt) (may:Txt→Bool) (cs:List CmdV) (hl:cs.length≤400):∃m,WY env (C9 cs) [] outs may m (ZR env outs may cs):=by
 obtain⟨m,h⟩:=(V7 (zeZ env outs may cs hl)).2
 grind [ZR]
theorem zeF.nil (known:List KnV) (may:Txt→Bool):zeF known [] may:=⟨by simp,by simp,by simp⟩
theorem zfT {env:List (Txt × Txt)} {outs:List Txt} {may:Txt→Bool} {cs:List CmdV} (hl:cs.length≤400) {known:List KnV} (hd:∀k∈known,k.data.length≤65536) :
  ∃b' kn' wr',goL known 600 (ZR env outs may cs)=some b'∧WY env (C9 cs) kn' outs may wr' b'∧zeF known kn' may∧(b'.over=true∨zQ known b'.asks=none):=by
 obtain⟨m,h⟩:=zec env outs may cs hl
 obtain⟨b',kn',wr',g1,g2,g3,g4,_⟩:=zno hd 600 h (zeF.nil _ _) (by simp)
 grind
end Go.Proofs.YtooipdkilgpojaaGreatDoor
end
