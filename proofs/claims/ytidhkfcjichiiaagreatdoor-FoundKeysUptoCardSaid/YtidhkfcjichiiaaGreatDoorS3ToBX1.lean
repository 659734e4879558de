/- The document's SHA-256: the whole text, the sum. No condition beyond each theorem's own. -/
import Derived.Test.YtidhkfcjichiiaaGreatDoorPZToS2
import Derived.Test.YtidhkfcjichiiaaGreatDoorRW2ToK21
set_option linter.unusedSimpArgs false
set_option linter.unusedVariables false
set_option linter.unusedSectionVars false
section
set_option maxRecDepth 100000
namespace Go.Proofs.YtidhkfcjichiiaaGreatDoor
open Go Go.Ab
open Classical
variable [Sel]
@[simp] theorem zmI:qZ Tryz.prog 138=true:=by kernel_rfl
@[simp] theorem zqr:z8 Tryz.prog (.func 138)=false:=q9 zmI
@[simp] theorem zAy:qZ Tryz.prog 84=true:=by kernel_rfl
@[simp] theorem zBm:z8 Tryz.prog (.func 84)=false:=q9 zAy
abbrev K3 (b:UInt8):AV:=.i .u8 b.toNat
def xD (n:Nat):Nat:=(55+64-n % 64) % 64
theorem zba (n:Nat):(n+1+xD n) % 64=56:=by unfold xD;omega
theorem zgX {n k:Nat} (h:k<xD n):(n+1+k) % 64≠56:=by unfold xD at h;omega
theorem zm1 (n:Nat):xD n<64:=by unfold xD;omega
def W9 (n:Nat):List UInt8:=[UInt8.ofNat (n*8 / 2 ^ 56),UInt8.ofNat (n*8 / 2 ^ 48),UInt8.ofNat (n*8 / 2 ^ 40),UInt8.ofNat (n*8 / 2 ^ 32),UInt8.ofNat (n*8 / 2 ^ 24),UInt8.ofNat (n*8 / 2 ^ 16),UInt8.ofNat (n*8 / 2 ^ 8),UInt8.ofNat (n*8)]
def K2 (l:List UInt8):List UInt8:=l++[128]++List.replicate (xD l.length) 0++W9 l.length
theorem zeC (l:List UInt8):(K2 l).length % 64=0:=by
 have:=zba l.length
 simp[K2,W9];omega
theorem zhj (N:Nat):∀j,j<8→(W9 N).take (8-j)=(W9 N).take (7-j)++[UInt8.ofNat (N*8 / 2 ^ (8*j))]
 | 0,_=>by simp[W9]|1,_=>by simp[W9]|2,_=>by simp[W9]|3,_=>by simp[W9]|4,_=>by simp[W9]|5,_=>by simp[W9]|6,_=>by simp[W9]|7,_=>by simp[W9]
 | j+8,h=>by omega
theorem znm (m:Nat):IntKind.u8.wrap (m:Int)=((UInt8.ofNat m).toNat:Int):=by
 simp[IntKind.wrap,IntKind.signed,IntKind.bits]
theorem zei {n:Int} (h0:0≤n) (h1:n<18446744073709551616):IntKind.u64.wrap n=n:=by
 simp[IntKind.wrap,IntKind.signed,IntKind.bits];omega
theorem zpG (n k:Nat) (h:k<64):((n:Int)).fdiv (2 ^ (min k IntKind.u64.bits))=((n / 2 ^ k:Nat):Int):=by
 rw[show min k IntKind.u64.bits=k by simp[IntKind.bits];omega,Int.fdiv_eq_ediv_of_nonneg _ (Int.le_of_lt (Int.pow_pos (by omega)))]
 norm_cast
theorem zdJ:K3 128=.i .u8 128:=rfl
theorem zbY:K3 0=.i .u8 0:=rfl
def QA (t:List UInt8):Nat→List UInt32
 | 0=>h8
 | n+1=>jR (QA t n) ((t.drop (64*n)).take 64)
theorem gT (t:List UInt8):∀n,(QA t n).length=8
 | 0=>rfl
 | n+1=>KJ (gT t n)
def WM (h:List UInt32):List UInt8:=(List.range 32).map fun i=>(h.getD (i/4) 0 >>> UInt32.ofNat (24-8*(i%4))).toUInt8
def sha (l:List UInt8):List UInt8:=WM (QA (K2 l) ((K2 l).length / 64))
theorem zdN (h:List UInt32):(WM h).length=32:=by simp[WM]
theorem zmR (d:List UInt8):KW d=.agg (d.map K3):=rfl
end Go.Proofs.YtidhkfcjichiiaaGreatDoor
end
section
set_option maxRecDepth 100000
namespace Go.Proofs.YtidhkfcjichiiaaGreatDoor
open Go Go.Ab
open Classical
variable [Sel] [SelPow] [SelMax]
structure BoxV where
 run:RunV
 outs:List Txt
 may:Txt→Bool
 wrote:List (Txt × Txt)
 reads:List XF
 asks:Txt
 over:Bool
 why:Int
def J9 (k:KnV):XF:=⟨k.path,k.is,if k.is=true then sha k.data else zc4⟩
def QM (e:Int) (b:BoxV):BoxV:={ b with over:=true,why:=e }
def JA (p d:Txt) (b:BoxV):BoxV :=
 if p∈b.wrote.map (·.1)∨p∉b.outs then QM 14 b else { b with wrote:=b.wrote++[(p,d)] }
def YU (b:BoxV):Bool:=b.outs.any fun p=>decide (p∉b.wrote.map (·.1))
noncomputable def roundB (b:BoxV):BoxV × Bool :=
 let d:=(w9 b.run).1
 let b':={ b with run:=(w9 b.run).2 }
 if d.kind=1 then(if b.may d.path=true then({ b' with asks:=d.path },true) else(QM 13 b',false))
 else if d.kind=2 then(JA d.path d.data b',false)
 else if d.kind=3 then(if YU b=true then(QM 14 b',false) else({ b' with over:=true },false))
 else(QM d.why b',false)
noncomputable def goN:Nat→BoxV→Option BoxV
 | 0,_=>none
 | n+1,b=>if b.over=true then some b else if (roundB b).2=true then some (roundB b).1 else goN n (roundB b).1
noncomputable def yQ (b:BoxV):BoxV:=(goN (ccR b.run+2) b).getD b
noncomputable def kB (k:KnV) (b:BoxV):Int × BoxV :=
 if b.over=true then(19,b) else if k.path≠b.asks then(1,b) else if k.is=true∧65536<k.data.length then(6,b)
 else(0,yQ { b with reads:=b.reads++[J9 k],run:=(QB k b.run).2 })
noncomputable def ZH (b:BoxV):List U1:=(kK (b.wrote.map (·.1))).map fun p=>⟨p,((b.wrote.find? fun x=>decide (x.1=p)).getD ([],[])).2⟩
noncomputable def yD (b:BoxV):zcy × Bool :=
 if b.over=false then(⟨0,0,[],[]⟩,false)
 else if b.why=0 then(⟨1,0,ZH b,b.reads⟩,true)
 else(⟨2,b.why,[],b.reads⟩,true)
def pdW (d:DoV):Txt × Txt:=(d.path,d.data)
structure zhg (env:List (Txt × Txt)) (c0:CfV) (kn:List KnV) (outs:List Txt) (may:Txt→Bool) (wr:List DoV) (b:BoxV):Prop where
 at_:AtR env c0 kn wr b.run
 no2:b.run.over.kind≠2
 wrote:b.wrote=wr.map pdW
 nod:(wr.map (·.path)).Nodup
 own:∀w∈wr,w.path∈outs
 outs:b.outs=outs
 may:b.may=may
 reads:b.reads=kn.map J9
 over:b.over=false
 why:b.why=0
inductive zf6 (env:List (Txt × Txt)) (c0:CfV) (kn:List KnV) (outs:List Txt) (may:Txt→Bool) (wr:List DoV) (b:BoxV):Prop
 | waits (d:DoV):JB env c0 kn wr b.run d→d.kind=1→may d.path=true→b.run.waits=true→b.asks=d.path→b.asks=b.run.asks→b.over=false→b.why=0→zf6 env c0 kn outs may wr b
 | read (d:DoV):JB env c0 kn wr b.run d→d.kind=1→may d.path=false→b.over=true→b.why=13→zf6 env c0 kn outs may wr b
 | ended (d:DoV):JB env c0 kn wr b.run d→d.kind=3→(∀p∈outs,p∈wr.map (·.path))→b.over=true→b.why=0→zf6 env c0 kn outs may wr b
 | short (d:DoV):JB env c0 kn wr b.run d→d.kind=3→¬(∀p∈outs,p∈wr.map (·.path))→b.over=true→b.why=14→zf6 env c0 kn outs may wr b
 | failed (d:DoV):JB env c0 kn wr b.run d→d.kind=4→d.why≠0→b.over=true→b.why=d.why→zf6 env c0 kn outs may wr b
 | wrote (d:DoV):AtR env c0 kn (wr++[d]) b.run→(d.path∈wr.map (·.path)∨d.path∉outs)→b.over=true→b.why=14→zf6 env c0 kn outs may wr b
structure WY (env:List (Txt × Txt)) (c0:CfV) (kn:List KnV) (outs:List Txt) (may:Txt→Bool) (wr:List DoV) (b:BoxV):Prop where
 e:zf6 env c0 kn outs may wr b
 wrote:b.wrote=wr.map pdW
 nod:(wr.map (·.path)).Nodup
 own:∀w∈wr,w.path∈outs
 outs:b.outs=outs
 may:b.may=may
 reads:b.reads=kn.map J9
theorem GC {wr:List DoV} {l:List (Txt × Txt)} (h:l=wr.map pdW):l.map (·.1)=wr.map (·.path):=by
 subst h;simp[pdW,Function.comp_def]
theorem JB.ov {env:List (Txt × Txt)} {c0:CfV} {kn:List KnV} {wr:List DoV} {r:RunV} {d:DoV} (h:JB env c0 kn wr r d):d.kind=1∧r.waits=true∧d.path=r.asks∨d.kind=3∧d=⟨3,[],[],0⟩∨d.kind=4∧d.why≠0:=by
 by_cases hw:r.waits=true
 ·exact .inl ⟨h.waits.2 hw,hw,by rw[h.asks hw]⟩
 ·have hw':r.waits=false:=by simpa using hw
  have hd:=h.over hw'
  have hst:=h.stops
  have hk0:r.over.kind≠0:=by
   unfold kL at hst
   simpa[hw']using hst
  rcases h.at_.ov.1 with h1|⟨h1,_⟩|h1|⟨h1,h2⟩
  ·rw[h1]at hk0;exact absurd rfl hk0
  ·exact absurd h1 h.no2
  ·exact .inr (.inl ⟨by rw[hd,h1],by rw[hd,h1]⟩)
  ·exact .inr (.inr ⟨by rw[hd];exact h1,by rw[hd];exact h2⟩)
theorem zin {env:List (Txt × Txt)} {c0:CfV} {kn:List KnV} {outs:List Txt} {may:Txt→Bool} {wr:List DoV} {b:BoxV} (h:zhg env c0 kn outs may wr b) :
  (∃d,zhg env c0 kn outs may (wr++[d]) (roundB b).1∧(roundB b).2=false∧ccR (roundB b).1.run<ccR b.run)∨(WY env c0 kn outs may wr (roundB b).1∧((roundB b).2=true∨(roundB b).1.over=true)):=by
 have hwp:=GC h.wrote
 obtain⟨d,hd⟩:∃d,d=(w9 b.run).1:=⟨_,rfl⟩
 obtain⟨r',hr'⟩:∃r',r'=(w9 b.run).2:=⟨_,rfl⟩
 have hn:=h.at_.next h.no2
 rw[←hd,←hr']at hn
 unfold roundB
 simp only[←hd,←hr']
 rcases hn with⟨h1,h2,h3,h4⟩|hs
 ·rw[if_neg (by rw[h1];decide),if_pos h1]
  unfold JA
  simp only[hwp,h.outs]
  by_cases hb:d.path∈wr.map (·.path)∨d.path∉outs
  ·rw[if_pos hb]
   right
   exact⟨⟨.wrote d h2 hb rfl rfl,h.wrote,h.nod,h.own,rfl,h.may,h.reads⟩,.inr rfl⟩
  ·rw[if_neg hb]
   left
   have hb1:d.path∉wr.map (·.path):=fun e=>hb (.inl e)
   have hb2:d.path∈outs:=Classical.byContradiction fun e=>hb (.inr e)
   refine⟨d,⟨h2,by rw[h4];decide,by simp only[h.wrote,List.map_append];rfl,?_,?_,rfl,h.may,h.reads,h.over,h.why⟩,trivial,h3⟩
   ·rw[List.map_append]
    refine List.nodup_append.2 ⟨h.nod,by simp,fun a ha c hc=>?_⟩
    simp only[List.map_cons,List.map_nil,List.mem_singleton]at hc
    subst hc
    intro e
    exact hb1 (e▸ha)
   ·intro w hw
    rcases List.mem_append.1 hw with hw|hw
    ·exact h.own w hw
    ·rw[List.mem_singleton.1 hw];exact hb2
 ·right
  rcases hs.ov with⟨h1,h2,h3⟩|⟨h1,h2⟩|⟨h1,h2⟩
  ·rw[if_pos h1,h.may]
   by_cases hm:may d.path=true
   ·rw[if_pos hm]
    exact⟨⟨.waits d hs h1 hm h2 rfl h3 h.over h.why,h.wrote,h.nod,h.own,h.outs,rfl,h.reads⟩,.inl rfl⟩
   ·rw[if_neg hm]
    exact⟨⟨.read d hs h1 (by simpa using hm) rfl rfl,h.wrote,h.nod,h.own,h.outs,rfl,h.reads⟩,.inr rfl⟩
  ·rw[if_neg (by rw[h1];decide),if_neg (by rw[h1];decide),if_pos h1]
   have hl:YU b=true↔¬∀p∈outs,p∈wr.map (·.path):=by
    unfold YU
    rw[hwp,h.outs]
    simp
   by_cases hm:YU b=true
   ·rw[if_pos hm]
    exact⟨⟨.short d hs h1 (hl.1 hm) rfl rfl,h.wrote,h.nod,h.own,h.outs,h.may,h.reads⟩,.inr rfl⟩
   ·rw[if_neg hm]
    exact⟨⟨.ended d hs h1 (Classical.byContradiction fun e=>hm (hl.2 e)) rfl h.why,h.wrote,h.nod,h.own,h.outs,h.may,h.reads⟩,.inr rfl⟩
  ·rw[if_neg (by rw[h1];decide),if_neg (by rw[h1];decide),if_neg (by rw[h1];decide)]
   exact⟨⟨.failed d hs h1 h2 rfl rfl,h.wrote,h.nod,h.own,h.outs,h.may,h.reads⟩,.inr rfl⟩
theorem znb {env:List (Txt × Txt)} {c0:CfV} {kn:List KnV} {outs:List Txt} {may:Txt→Bool}:∀(n:Nat) {wr:List DoV} {b:BoxV},zhg env c0 kn outs may wr b→ccR b.run<n→∃b' m,goN (n+1) b=some b'∧WY env c0 kn outs may (wr++m) b'
 | 0,_,_,_,h=>absurd h (Nat.not_lt_zero _)
 | n+1,wr,b,h,hc=>by
  rw[goN,if_neg (by rw[h.over];decide)]
  rcases zin h with⟨d,h1,h2,h3⟩|⟨h1,h2⟩
  ·rw[if_neg (by rw[h2];decide)]
   obtain⟨b',m,h4,h5⟩:=znb n h1 (by omega)
   exact⟨b',d::m,h4,by rw[List.append_assoc]at h5;exact h5⟩
  ·by_cases h3:(roundB b).2=true
   ·rw[if_pos h3];exact⟨_,[],rfl,by rw[List.append_nil];exact h1⟩
   ·rw[if_neg h3,goN,if_pos (h2.resolve_left h3)]
    exact⟨_,[],rfl,by rw[List.append_nil];exact h1⟩
theorem V7 {env:List (Txt × Txt)} {c0:CfV} {kn:List KnV} {outs:List Txt} {may:Txt→Bool} {wr:List DoV} {b:BoxV} (h:zhg env c0 kn outs may wr b):goN (ccR b.run+2) b=some (yQ b)∧∃m,WY env c0 kn outs may (wr++m) (yQ b):=by
 obtain⟨b',m,h1,h2⟩:=znb (ccR b.run+1) h (by omega)
 have:yQ b=b':=by unfold yQ;rw[h1];rfl
 rw[this]
 exact⟨h1,m,h2⟩
theorem WY.tell {env:List (Txt × Txt)} {c0:CfV} {kn:List KnV} {outs:List Txt} {may:Txt→Bool} {wr:List DoV} {b:BoxV} (h:WY env c0 kn outs may wr b) (ho:b.over=false) (k:KnV) (hp:k.path=b.asks) (hd:k.is=true→k.data.length≤65536) :
  zhg env c0 (kn++[k]) outs may wr { b with reads:=b.reads++[J9 k],run:=(QB k b.run).2 }∧(QB k b.run).1=0:=by
 cases h.e with
 | waits d hs h1 hm hw ha ha2 h3 h4 =>
  obtain⟨g1,g2,g3,_⟩:=hs.give k hw (hp.trans ha2) hd
  exact⟨⟨g2,by rw[show (BoxV.run _).over=(QB k b.run).2.over from rfl,g3];decide,h.wrote,h.nod,h.own,h.outs,h.may,by simp only[h.reads,List.map_append];rfl,h3,h4⟩,g1⟩
 | read d _ _ _ h3 _=>rw[h3]at ho;cases ho
 | ended d _ _ _ h3 _=>rw[h3]at ho;cases ho
 | short d _ _ _ h3 _=>rw[h3]at ho;cases ho
 | failed d _ _ _ h3 _=>rw[h3]at ho;cases ho
 | wrote d _ _ h3 _=>rw[h3]at ho;cases ho
theorem AtR.s {env:List (Txt × Txt)} {c0:CfV} {kn:List KnV} {wr:List DoV} {r:RunV} (h:AtR env c0 kn wr r):kn.length≤500:=by
 have hk:r.known.length≤500:=by
  rcases h.inv with⟨g,_⟩|⟨_,_,_,_,g,_⟩
  ·exact g.nk
  ·exact g.nk
 rw[h.kno]at hk;exact hk
theorem WY.len {env:List (Txt × Txt)} {c0:CfV} {kn:List KnV} {outs:List Txt} {may:Txt→Bool} {wr:List DoV} {b:BoxV} (h:WY env c0 kn outs may wr b):kn.length≤500:=by
 cases h.e with
 | waits d hs=>exact hs.at_.s
 | read d hs=>exact hs.at_.s
 | ended d hs=>exact hs.at_.s
 | short d hs=>exact hs.at_.s
 | failed d hs=>exact hs.at_.s
 | wrote d hs=>exact hs.s
theorem WY.asks {env:List (Txt × Txt)} {c0:CfV} {kn:List KnV} {outs:List Txt} {may:Txt→Bool} {wr:List DoV} {b:BoxV} (h:WY env c0 kn outs may wr b) (ho:b.over=false):may b.asks=true∧zQ kn b.asks=none∧b.why=0:=by
 cases h.e with
 | waits d hs h1 hm hw ha ha2 h3 h4 =>
  refine⟨by rw[ha];exact hm,?_,h4⟩
  rcases hs.at_.inv with⟨_,h2⟩|⟨l,k,p,e,g2,g3,g4,_⟩
  ·rw[hw]at h2;cases h2
  ·obtain⟨q1,q2,_⟩:=g4 hw
   rw[ha2,q1,←hs.at_.kno];exact q2
 | read d _ _ _ h3 _=>rw[h3]at ho;cases ho
 | ended d _ _ _ h3 _=>rw[h3]at ho;cases ho
 | short d _ _ _ h3 _=>rw[h3]at ho;cases ho
 | failed d _ _ _ h3 _=>rw[h3]at ho;cases ho
 | wrote d _ _ h3 _=>rw[h3]at ho;cases ho
theorem WY.give {env:List (Txt × Txt)} {c0:CfV} {kn:List KnV} {outs:List Txt} {may:Txt→Bool} {wr:List DoV} {b:BoxV} (h:WY env c0 kn outs may wr b) (ho:b.over=false) (k:KnV) (hp:k.path=b.asks) (hd:k.is=true→k.data.length≤65536) :
  (kB k b).1=0∧∃m,WY env c0 (kn++[k]) outs may (wr++m) (kB k b).2:=by
 have h1:=(h.tell ho k hp hd).1
 unfold kB
 rw[if_neg (by rw[ho];decide),if_neg (by simp[hp]),if_neg (fun h=>by have:=hd h.1;omega)]
 exact⟨rfl,(V7 h1).2⟩
structure zeF (known kn:List KnV) (may:Txt→Bool):Prop where
 each:∀k∈kn,zQ known k.path=some k
 nod:(kn.map (·.path)).Nodup
 may:∀k∈kn,may k.path=true
theorem WY.out {env:List (Txt × Txt)} {c0:CfV} {kn:List KnV} {outs:List Txt} {may:Txt→Bool} {wr:List DoV} {b:BoxV} (h:WY env c0 kn outs may wr b) (ho:b.over=true):(b.why=0∧∀p∈outs,p∈wr.map (·.path))∨b.why≠0:=by
 cases h.e with
 | waits d _ _ _ _ _ _ h3 _=>rw[h3]at ho;cases ho
 | read d _ _ _ _ h4=>exact .inr (by rw[h4];decide)
 | ended d _ _ h2 _ h4=>exact .inl ⟨h4,h2⟩
 | short d _ _ _ _ h4=>exact .inr (by rw[h4];decide)
 | failed d _ _ h2 _ h4=>exact .inr (by rw[h4];exact h2)
 | wrote d _ _ _ h4=>exact .inr (by rw[h4];decide)
/-! ### a box ahead of its first step -/
noncomputable def CE (env:List (Txt × Txt)) (outs:List Txt) (may:Txt→Bool) (cs:List CmdV):BoxV:=⟨⟨(cs.reverse).map .cmd,env,[],[],[],false,do0,[]⟩,outs,may,[],[],[],false,0⟩
noncomputable def ZR (env:List (Txt × Txt)) (outs:List Txt) (may:Txt→Bool) (cs:List CmdV):BoxV:=yQ (CE env outs may cs)
def C9 (cs:List CmdV):CfV:=⟨cs.map .cmd,st0,[]⟩
theorem zak (env:List (Txt × Txt)) (cs:List CmdV) (hl:cs.length≤400):JF ⟨(cs.reverse).map .cmd,env,[],[],[],false,do0,[]⟩:=by
 refine .inl ⟨⟨⟨(cs.reverse).map .cmd,[],by simp,fun t ht=>?_,by simp⟩,?_,?_,by simp,by simp,by simp⟩,rfl⟩
 ·obtain⟨c,_,rfl⟩:=List.mem_map.1 ht
  rfl
 ·have hs:Y6 ([]:List KnV) ((cs.reverse).map .cmd)=0:=u6 _ _ fun t ht=>by
   obtain⟨c,_,rfl⟩:=List.mem_map.1 ht
   rfl
  simp only[hs]
  simp[YN,xY]
 ·have:=List.countP_le_length (p:=isC) (l:=(cs.reverse).map TdV.cmd)
  simp at this ⊢
  omega
theorem zeZ (env:List (Txt × Txt)) (outs:List Txt) (may:Txt→Bool) (cs:List CmdV) (hl:cs.length≤400):zhg env (C9 cs) [] outs may [] (CE env outs may cs):=by
 refine⟨⟨zak env cs hl,⟨.inl rfl,fun _=>rfl⟩,rfl,rfl,fun kn' _=>?_⟩,by show (0:Int)≠2;decide,rfl,by simp,by simp,rfl,rfl,rfl,rfl,rfl⟩
 have:jV [] (CE env outs may cs).run=C9 cs:=by
  simp[jV,CE,C9,st0,do0]
 rw[this];exact .refl _
theorem zec (env:List (Txt × Txt)) (outs:List Txt) (may:Txt→Bool) (cs:List CmdV) (hl:cs.length≤400):∃m,WY env (C9 cs) [] outs may m (ZR env outs may cs):=by
 obtain⟨m,h⟩:=(V7 (zeZ env outs may cs hl)).2
 exact⟨m,by simpa[ZR]using h⟩
theorem zeF.nil (known:List KnV) (may:Txt→Bool):zeF known [] may:=⟨by simp,by simp,by simp⟩
end Go.Proofs.YtidhkfcjichiiaaGreatDoor
end
