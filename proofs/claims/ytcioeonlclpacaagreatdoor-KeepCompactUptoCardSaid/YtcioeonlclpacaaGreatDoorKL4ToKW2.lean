/- Written anew, nothing is lost: plain. No condition beyond each theorem's own. -/
import Derived.Test.YtcioeonlclpacaaGreatDoorKE5ToKL2
import Derived.Test.YtcioeonlclpacaaGreatDoorPM0ToD9a
import Derived.Test.YtcioeonlclpacaaGreatDoorVCaToP14
import Derived.Test.YtcioeonlclpacaaGreatDoorE2ToE5
import Derived.Test.YtcioeonlclpacaaGreatDoorS3ToS8
set_option linter.unusedSimpArgs false
set_option linter.unusedVariables false
set_option linter.unusedSectionVars false
section
set_option maxRecDepth 100000
namespace Go.Proofs.YtcioeonlclpacaaGreatDoor
open Go Go.Ab
open Classical
variable [Sel] [SelPow] [SelErr]
structure SmM (x:MV):Prop where
 t:∀q,∀t∈getD x.L q,(zJG t).length≤1048576
 b:∀d p,x.bl.find? (fun p=>decide (p.1=d))=some p→(zJf p.2).length≤1048576
theorem SmM.eq {x y:MV} (h:SmM x) (e:MEq x y):SmM y:=⟨fun q t ht=>h.t q t (by rw[e.g];exact ht),fun d p hp=>h.b d p (by rw[e.f];exact hp)⟩
theorem zW3 {mo:Nat} {L:DbL} {t u:zaP} {q:Dig} (h:u∈getD (zJj mo L t) q):u=t∨u∈getD L q:=by
 rw[zKB,zMN]at h
 split at h
 ·have:=List.mem_of_mem_take h
  rcases List.mem_cons.1 this with rfl|h
  ·exact .inl rfl
  ·exact .inr (List.mem_filter.1 h).1
 ·exact .inr h
theorem zWm {d e:Dig} {s:List UInt8} {l:BlL} {p:Dig × List UInt8} (h:(zJm d s l).find? (fun p=>decide (p.1=e))=some p):l.find? (fun p=>decide (p.1=e))=some p∨p=(d,s):=by
 rw[zKg]at h
 split at h
 ·exact .inl h
 ·split at h
  ·cases h;exact .inr rfl
  ·cases h
theorem SmM.load {mo:Nat} {r:List UInt8} {x y:MV} (h:SmM x) (hr:r.length≤1048576) (hl:K0 mo r x=(y,0)):SmM y:=by
 rcases zOz hl with⟨s,rfl,rfl⟩|⟨t,ht,rfl,rfl⟩
 ·refine⟨h.t,fun d p hp=>?_⟩
  rcases zWm hp with h1|rfl
  ·exact h.b d p h1
  ·exact hr
 ·refine⟨fun q u hu=>?_,h.b⟩
  rcases zW3 hu with rfl|h1
  ·exact hr
  ·exact h.t q u h1
theorem SmM.loads {mo:Nat}:∀ {l:List (List UInt8)} {x y:MV},SmM x→zKY l→j5 mo l x=(y,0)→SmM y
 | [],x,y,h,_,e=>by cases e;exact h
 | r::l,x,y,h,hs,e=>by
  rw[j5]at e
  split at e
  ·rename_i h1
   exact SmM.loads (h.load (hs r (by simp)) (y:=(K0 mo r x).1) (by rw[←h1])) (fun z hz=>hs z (List.mem_cons_of_mem _ hz)) e
  ·rename_i h1;rw[e]at h1;exact absurd rfl h1
theorem SmM.nil:SmM ⟨[],[]⟩:=⟨by simp[getD],by simp⟩
theorem zW6 {x:MV} (h:SmM x) {s:zKv} (hs:zKY s.2) (m:Made):zKY (recM x.bl m s).2:=by
 unfold recM
 cases hf:x.bl.find? (fun p=>decide (p.1=m.sum))with
 | none=>exact hs
 | some p =>
  simp only
  split
  ·exact hs
  ·exact zN1 hs fun r hr=>by rw[List.mem_singleton.1 hr];exact h.b _ _ hf
theorem zVi {x:MV} (h:SmM x):∀(l:List Made) {s:zKv},zKY s.2→zKY (l.foldl (fun s m=>recM x.bl m s) s).2
 | [],_,hs=>hs
 | m::l,_,hs=>zVi h l (zW6 h hs m)
theorem zVh {x:MV} (h:SmM x):∀(l:List zaP) {s:zKv},(∀t∈l,(zJG t).length≤1048576)→zKY s.2→zKY (l.foldl (fun s t=>recT x.bl t s) s).2
 | [],_,_,hs=>hs
 | t::l,_,hl,hs=>by
  refine zVh h l (fun u hu=>hl u (List.mem_cons_of_mem _ hu)) ?_
  exact zN1 (zVi h t.outs hs) fun r hr=>by rw[List.mem_singleton.1 hr];exact hl t (by simp)
theorem zVm {x:MV} (h:SmM x):∀(l:List Dig) {s:zKv},zKY s.2→zKY (l.foldl (fun s k=>recK x k s) s).2
 | [],_,hs=>hs
 | k::l,_,hs=>zVm h l (zVh h _ (fun t ht=>h.t k t (List.mem_reverse.1 ht)) hs)
theorem zVt {x:MV} (h:SmM x):zKY (zO2 x).2:=zVm h _ fun r hr=>by cases hr
def zVB (x:MV):Prop:=∀q,∀t∈getD x.L q,∀m∈t.outs,zJl m.sum x.bl=true
theorem zVB.eq {x y:MV} (h:zVB x) (e:MEq x y):zVB y:=fun q t ht m hm=>by rw[←zNt e];exact h q t (by rw[e.g];exact ht) m hm
theorem zWs {bl:BlL} {m:Made} {s:zKv} {d:Dig} (h:d∈s.1):d∈(recM bl m s).1:=by
 unfold recM
 split
 ·split
  ·exact h
  ·exact List.mem_append_left _ h
 ·exact h
theorem zWX {bl:BlL} {m:Made} {s:zKv} (h:zJl m.sum bl=true):m.sum∈(recM bl m s).1:=by
 unfold zJl at h
 unfold recM
 cases hf:bl.find? (fun p=>decide (p.1=m.sum))with
 | none=>rw[hf]at h;cases h
 | some p =>
  simp only
  split
  ·assumption
  ·simp
theorem zV5 {bl:BlL} {d:Dig}:∀(l:List Made) {s:zKv},d∈s.1→d∈(l.foldl (fun s m=>recM bl m s) s).1
 | [],_,h=>h
 | m::l,_,h=>zV5 l (zWs h)
theorem zVV {bl:BlL} {m:Made} (hb:zJl m.sum bl=true):∀(l:List Made) {s:zKv},m∈l→m.sum∈(l.foldl (fun s m=>recM bl m s) s).1
 | y::l,_,h=>by
  rcases List.mem_cons.1 h with rfl|h
  ·exact zV5 l (zWX hb)
  ·exact zVV hb l h
theorem zV7 {bl:BlL} {d:Dig}:∀(l:List zaP) {s:zKv},d∈s.1→d∈(l.foldl (fun s t=>recT bl t s) s).1
 | [],_,h=>h
 | t::l,s,h=>zV7 l (s:=recT bl t s) (zV5 t.outs h)
theorem zVU {bl:BlL} {m:Made} (hb:zJl m.sum bl=true) {t:zaP} (hm:m∈t.outs):∀(l:List zaP) {s:zKv},t∈l→m.sum∈(l.foldl (fun s t=>recT bl t s) s).1
 | u::l,s,h=>by
  rcases List.mem_cons.1 h with rfl|h
  ·exact zV7 l (s:=recT bl t s) (zVV hb t.outs hm)
  ·exact zVU hb hm l h
theorem zVy {x:MV} {d:Dig}:∀(l:List Dig) {s:zKv},d∈s.1→d∈(l.foldl (fun s k=>recK x k s) s).1
 | [],_,h=>h
 | k::l,s,h=>zVy l (s:=recK x k s) (zV7 _ h)
theorem zVZ {x:MV} {m:Made} (hb:zJl m.sum x.bl=true) {t:zaP} (hm:m∈t.outs) {k:Dig} (ht:t∈getD x.L k):∀(l:List Dig) {s:zKv},k∈l→m.sum∈(l.foldl (fun s k=>recK x k s) s).1
 | q::l,s,h=>by
  rcases List.mem_cons.1 h with rfl|h
  ·exact zVy l (s:=recK x k s) (zVU hb hm _ (List.mem_reverse.2 ht))
  ·exact zVZ hb hm ht l h
theorem zWi {x:MV} (ho:OKD x.L) (h:zVB x) {k:Dig} {t:zaP} (ht:t∈getD x.L k) {m:Made} (hm:m∈t.outs):m.sum∈(zO2 x).1 :=
 zVZ (h k t ht m hm) hm ht _ (zNX.2 ((zLl ho k).2 (List.ne_nil_of_mem ht)))
theorem zVE {x:MV} {d:Dig} (h:d∈(zO2 x).1):(zSg x).bl.find? (fun p=>decide (p.1=d))=x.bl.find? (fun p=>decide (p.1=d)):=by
 show (x.bl.filter fun p=>decide (p.1∈(zO2 x).1)).find? _=_
 rw[List.find?_filter]
 refine congrArg (fun f=>List.find? f x.bl) ?_
 funext p
 by_cases hp:p.1=d
 ·have:p.1∈(zO2 x).1:=by rw[hp];exact h
  simp[hp,this]
  exact hp▸this
 ·simp[hp]
theorem zVB.only {x:MV} (ho:OKD x.L) (h:zVB x):zVB (zSg x):=fun q t ht m hm=>by
 have h1:=zWi ho h (k:=q) (t:=t) ht hm
 have h2:=h q t ht m hm
 unfold zJl at h2 ⊢
 rw[zVE h1];exact h2
theorem zVl {bl bl':BlL}:∀(l:List Made) (s:zKv),(∀m∈l,bl.find? (fun p=>decide (p.1=m.sum))=bl'.find? (fun p=>decide (p.1=m.sum)))→l.foldl (fun s m=>recM bl m s) s=l.foldl (fun s m=>recM bl' m s) s
 | [],_,_=>rfl
 | m::l,s,h=>by
  have e:recM bl m s=recM bl' m s:=by unfold recM;rw[h m (by simp)]
  rw[List.foldl_cons,List.foldl_cons,e]
  exact zVl l _ fun y hy=>h y (List.mem_cons_of_mem _ hy)
theorem zVk {bl bl':BlL}:∀(l:List zaP) (s:zKv),(∀t∈l,∀m∈t.outs,bl.find? (fun p=>decide (p.1=m.sum))=bl'.find? (fun p=>decide (p.1=m.sum)))→l.foldl (fun s t=>recT bl t s) s=l.foldl (fun s t=>recT bl' t s) s
 | [],_,_=>rfl
 | t::l,s,h=>by
  have e:recT bl t s=recT bl' t s:=by unfold recT;rw[zVl t.outs s (h t (by simp))]
  rw[List.foldl_cons,List.foldl_cons,e]
  exact zVk l _ fun y hy=>h y (List.mem_cons_of_mem _ hy)
theorem zWn {x:MV} (ho:OKD x.L) (h:zVB x):zO2 (zSg x)=zO2 x:=by
 have e:recK (zSg x)=recK x:=by
  funext k s
  unfold recK
  show (getD x.L k).reverse.foldl _ _=_
  exact zVk _ s fun t ht m hm=>zVE (zWi ho h (List.mem_reverse.1 ht) hm)
 unfold zO2
 rw[e]
 rfl
theorem zVI {bl:BlL}:∀(l:List zaP) (s:zKv),s.2.length+l.length≤(l.foldl (fun s t=>recT bl t s) s).2.length
 | [],s=>by simp
 | t::l,s=>by
  have ih:=zVI (bl:=bl) l (recT bl t s)
  have hM:∀(l:List Made) (s:zKv),s.2.length≤(l.foldl (fun s m=>recM bl m s) s).2.length:=by
   intro l
   induction l with
   | nil=>intro s;simp
   | cons m l ih =>
    intro s
    refine Nat.le_trans ?_ (ih (recM bl m s))
    unfold recM
    split
    ·split<;>simp
    ·exact Nat.le_refl _
  have h1:=hM t.outs s
  have h2:s.2.length+1≤(recT bl t s).2.length:=by
   unfold recT
   simp only[List.length_append,List.length_cons,List.length_nil]
   omega
  rw[List.foldl_cons,List.length_cons]
  omega
theorem zVC {x:MV} (k:Dig):∀(l:List Dig) (s:zKv),s.2.length≤(l.foldl (fun s k=>recK x k s) s).2.length∧(k∈l→(getD x.L k).length≤(l.foldl (fun s k=>recK x k s) s).2.length)
 | [],s=>⟨by simp,fun h=>by cases h⟩
 | q::l,s=>by
  obtain⟨i1,i2⟩:=zVC (x:=x) k l (recK x q s)
  have h1:=zVI (bl:=x.bl) (getD x.L q).reverse s
  have h2:s.2.length+(getD x.L q).length≤(recK x q s).2.length:=by
   rw[List.length_reverse]at h1;exact h1
  rw[List.foldl_cons]
  refine⟨by omega,fun h=>?_⟩
  rcases List.mem_cons.1 h with rfl|h
  ·omega
  ·exact i2 h
theorem zWN {x:MV} (ho:OKD x.L) (k:Dig):(getD x.L k).length≤(zO2 x).2.length:=by
 by_cases h:getD x.L k=[]
 ·rw[h];simp
 ·exact(zVC k _ _).2 (zNX.2 ((zLl ho k).2 h))
structure Std (n N:Nat) (k:KV) (recs:List (List UInt8)):Prop where
 mo:k.mo=n
 inv:zJS N k
 br:k.j.br=false
 file:zJK k.j.d.m recs
 small:zKY recs
 ld:∃M,j5 n recs ⟨[],[]⟩=(M,0)∧MEq M k.M
 all:zVB k.M
theorem Std.sm {n N:Nat} {k:KV} {recs:List (List UInt8)} (h:Std n N k recs):SmM k.M:=by
 obtain⟨M,h1,h2⟩:=h.ld
 exact(SmM.nil.loads h.small h1).eq h2
theorem zW1 {n N:Nat} {k:KV} {recs:List (List UInt8)} (h:Std n N k recs) (hl:k.j.d.left=-1) {t:zaP} {outs:List U1} (hf:zOF t outs) :
  (g6 t outs k).2=0∧Std n (N+(wtO outs+wtT t)) (g6 t outs k).1 (recs++zLc t outs k.M.bl)∧(g6 t outs k).1.j.d.left=-1∧(g6 t outs k).1.M.L=zJj n k.M.L t:=by
 have hi:=zLx h.inv hf.g.1 outs
 obtain⟨M,l1,l2⟩:=h.ld
 have hnw:=zM5 (mo:=n) hf k.M
 obtain⟨M2,g1,g2⟩:=l2.symm.loads hnw
 rcases zL7 h.br h.file hf with⟨a1,a2,a3,a4,a5⟩|⟨_,_,a3,_⟩
 ·rw[h.mo]at a4
  refine⟨a1,⟨by rw[zLn];exact h.mo,hi.1,a2,a3,zN1 h.small (zL3 hf),⟨M2,?_,?_⟩,?_⟩,a5 hl,by rw[a4]⟩
  ·rw[zJw l1];exact g1
  ·rw[a4];exact g2.symm
  ·rw[a4]
   intro q u hu m hm
   rcases zW3 hu with rfl|hu
   ·rw[hf.o]at hm
    obtain⟨f,hfm,rfl⟩:=List.mem_map.1 hm
    exact zMY hfm
   ·exact zN0 (h.all q u hu m hm)
 ·exact absurd hl a3
theorem zWv {n:Nat} (h1:1≤n) (h8:n≤8) {d:DV} {l:List (List UInt8)} {M:MV} (h:Op d l (openJ d)) (hl:j5 n l ⟨[],[]⟩=(M,0)):zJv n d=((openJ d).1,some ⟨⟨(openJ d).1,false⟩,n,M⟩,0):=by
 have e1:(openJ d).2.1=0:=by rw[h.e]
 have e2:(openJ d).2.2=l:=by rw[h.e]
 unfold zJv
 rw[if_neg (by omega),if_neg (by rw[e1];decide),e2]
 have e3:(Int.toNat (n:Int))=n:=by simp
 rw[e3,hl,if_neg (by simp)]
theorem zVw {n N:Nat} (h1:1≤n) (h8:n≤8) {d:DV} (hd:g8 N d) {l:List (List UInt8)} {M:MV} (hs:zKY l) (hf:zJK d.m l) (hl:j5 n l ⟨[],[]⟩=(M,0)) (ha:zVB M) (ps:List Int) :
  ∃k',zJv n (zJh ps d)=(k'.j.d,some k',0)∧Std n N k' l∧k'.M=M∧k'.j.d.left=-1:=by
 have ho:=zKt hs hf ps
 have e:=zWv h1 h8 ho hl
 have hi:=(zMV (mo:=n) (hd.crash ps)).2 _ (by rw[e])
 refine⟨_,e,⟨rfl,hi.1,rfl,ho.m,hs,⟨M,hl,MEq.refl M⟩,ha⟩,rfl,ho.left⟩
theorem zVX {n N:Nat} (h1:1≤n) (h8:n≤8) (hN:N<1000000000) {k:KV} {recs:List (List UInt8)} (h:Std n N k recs) (ps:List Int) :
  ∃k' l,zJv n (zJh ps (zUW k).1.j.d)=(k'.j.d,some k',0)∧Std n N k' l∧k'.j.d.left=-1∧∀q,getD k'.M.L q=getD k.M.L q:=by
 have hmo:=h.mo
 have hsm:=zVt h.sm
 have hI:=h.inv.mem
 rw[hmo]at hI
 obtain⟨hc,_⟩:=zV2 h.inv
 have hje:=JV.eta h.br
 rcases zVH (l':=(zO2 k.M).2) h.file hsm with⟨a1,a2,a3,a4,a5,a6⟩|⟨a1,a2,a3⟩
 ·rw[←hje]at a1 a3
  have e:(zUW k).1.j=(swapJ (zO2 k.M).2 k.j).1:=by unfold zUW;rw[if_pos a1]
  rw[←e]at a3
  obtain⟨y,l1,l2,_⟩:=zVx hI hN
  obtain⟨k',g1,g2,g3,g4⟩:=zVw h1 h8 hc.of hsm a3 l1 ((h.all.only hI.ok).eq l2.symm) ps
  exact⟨k',_,g1,g2,g4,fun q=>by rw[g3];exact l2.g q⟩
 ·rw[←hje]at a1 a2
  have e:(zUW k).1.j=(swapJ (zO2 k.M).2 k.j).1:=by unfold zUW;rw[if_neg a1]
  rw[←e]at a2
  obtain⟨M,l1,l2⟩:=h.ld
  obtain⟨k',g1,g2,g3,g4⟩:=zVw h1 h8 hc.of h.small a2 l1 (h.all.eq l2.symm) ps
  exact⟨k',_,g1,g2,g4,fun q=>by rw[g3];exact l2.g q⟩
theorem zV0 {n N:Nat} (hN:N<1000000000) {k:KV} {recs:List (List UInt8)} (h:Std n N k recs) (hl:k.j.d.left=-1) :
  (zUW k).2=0∧(zUW k).1.M=zSg k.M∧(zUW k).1.j.d.left=-1∧zK6 (zUW k).1.j.d.m=q5 (zO2 k.M).2∧Std n N (zUW k).1 (zO2 k.M).2:=by
 have hmo:=h.mo
 have hsm:=zVt h.sm
 have hI:=h.inv.mem
 rw[hmo]at hI
 obtain⟨hc,_⟩:=zV2 h.inv
 have hje:=JV.eta h.br
 rcases zVH (l':=(zO2 k.M).2) h.file hsm with⟨a1,a2,a3,a4,a5,a6⟩|⟨a1,a2,a3⟩
 ·rw[←hje]at a1 a2 a3 a5 a6
  have e:zUW k=(⟨(swapJ (zO2 k.M).2 k.j).1,k.mo,zSg k.M⟩,0):=by unfold zUW;rw[if_pos a1]
  obtain⟨y,l1,l2,_⟩:=zVx hI hN
  rw[e]at hc ⊢
  exact⟨rfl,rfl,a6 hl,a5,hmo,hc,a2,a3,hsm,⟨y,l1,l2⟩,h.all.only hI.ok⟩
 ·exact absurd hl a3
@[simp] theorem zxb:qZ Tryz.prog 8=true:=by kernel_rfl
@[simp] theorem zxB:z8 Tryz.prog (.func 8)=false:=q9 zxb
@[simp] theorem zxc:qZ Tryz.prog 9=true:=by kernel_rfl
@[simp] theorem zxC:z8 Tryz.prog (.func 9)=false:=q9 zxc
@[simp] theorem zwP:qZ Tryz.prog 10=true:=by kernel_rfl
@[simp] theorem zxt:z8 Tryz.prog (.func 10)=false:=q9 zwP
@[simp] theorem zoA:qZ Tryz.prog 14=true:=by kernel_rfl
@[simp] theorem zrs:z8 Tryz.prog (.func 14)=false:=q9 zoA
@[simp] theorem zop:qZ Tryz.prog 20=true:=by kernel_rfl
@[simp] theorem zs2:z8 Tryz.prog (.func 20)=false:=q9 zop
@[simp] theorem zpK:qZ Tryz.prog 7=true:=by kernel_rfl
@[simp] theorem ztn:z8 Tryz.prog (.func 7)=false:=q9 zpK
structure zJk where
 key:Int
 reads:List XF
 outs:List U1
 odd:Int
def y3 (o:zJk):AV:=.agg [.i .u8 o.key,qF o.reads,zU o.outs,.i .u8 o.odd]
structure zNb where
 kind:Int
 n:Int
 one:zJk
 picks:List Int
def zJt (a:zNb):AV:=.agg [.i .i64 a.kind,.i .i64 a.n,y3 a.one,zJY a.picks]
noncomputable abbrev zSb:TyD:=qD Tryz.prog 29
noncomputable abbrev UI:TyD:=qD Tryz.prog 32
def szO (l:List U1):Nat:=(l.map fun f=>f.path.length+f.data.length+1).sum
def szR (l:List XF):Nat:=(l.map fun r=>r.path.length+10).sum
def szA (a:zNb):Nat:=1+a.picks.length+szO a.one.outs+szR a.one.reads
def zKx (l:List zNb):Nat:=(l.map szA).sum
theorem zR9 (l:List U1) (i:Nat) (h:i<l.length):szO (l.take (i+1))=szO (l.take i)+(l[i].path.length+l[i].data.length+1):=by
 rw[List.take_succ_eq_append_getElem h];simp only[szO,List.map_append,List.sum_append,List.map_cons,List.map_nil,List.sum_cons,List.sum_nil,Nat.add_zero]
theorem zQP (l:List XF) (i:Nat) (h:i<l.length):szR (l.take (i+1))=szR (l.take i)+(l[i].path.length+10):=by
 rw[List.take_succ_eq_append_getElem h];simp only[szR,List.map_append,List.sum_append,List.map_cons,List.map_nil,List.sum_cons,List.sum_nil,Nat.add_zero]
theorem zQ0 (l:List zNb) (i:Nat) (h:i<l.length):zKx (l.take (i+1))=zKx (l.take i)+szA l[i]:=by
 rw[List.take_succ_eq_append_getElem h];simp only[zKx,List.map_append,List.sum_append,List.map_cons,List.map_nil,List.sum_cons,List.sum_nil,Nat.add_zero]
theorem zNp {α:Type} (f:α→Nat) (l:List α) (i:Nat):((l.take i).map f).sum≤(l.map f).sum:=by
 conv=>rhs;rw[←List.take_append_drop i l,List.map_append,List.sum_append]
 omega
theorem zKn (l:List U1):l.length≤szO l:=by
 induction l with
 | nil=>simp
 | cons f l ih=>simp only[szO,List.map_cons,List.sum_cons,List.length_cons]at ih ⊢;omega
theorem zNa (l:List XF):l.length≤szR l:=by
 induction l with
 | nil=>simp
 | cons f l ih=>simp only[szR,List.map_cons,List.sum_cons,List.length_cons]at ih ⊢;omega
theorem zQb (l:List zNb):l.length≤zKx l:=by
 induction l with
 | nil=>simp
 | cons f l ih=>simp only[zKx,szA,List.map_cons,List.sum_cons,List.length_cons]at ih ⊢;omega
def zKK (l:List zNb):Bool:=decide (2500<zKx l)||decide (25<l.length)
theorem zKP (o:zJk):(y3 o).er=y3 o:=by simp[y3,AV.er,AV.ers,zdW]
theorem zQk (l:List Int):(zJY l).er=zJY l:=by simp[zJY,AV.er,AV.ers_eq,Function.comp_def]
theorem zQi (l:List zNb) (k:Nat) (h:k<l.length):(l.map zJt)[k]?=some (zJt l[k]):=by simp[List.getElem?_eq_getElem h]
theorem zPH (l:List XF) (k:Nat) (h:k<l.length):(l.map qI)[k]?=some (qI l[k]):=by simp[List.getElem?_eq_getElem h]
set_option maxHeartbeats 16000000 in
theorem zMI (l:List zNb) (hl:zKx l≤1000000000000000):PC Tryz.prog 8 [.av (.slice 32) (.sl .no (l.map zJt))] (.av .bool (.b (zKK l))):=by
 have hll:=zQb l
 refine zow Tryz.func8 cf0 fun imm0 w0=>?_
 simp (disch:=omega) [zz]
 refine AT.loop' (α:=Nat) (fun i=>St.of [(0,.av (.slice 32) (.sl .no (l.map zJt))),(3,.av (.int .i64) (.i .i64 (zKx (l.take i)))),(10,.av (.slice 32) (.sl .no (l.map zJt))),(11,.av (.int .i64) (.i .i64 l.length)),(12,.av (.int .i64) (.i .i64 i))] [] (fun _=>0) [])
  (fun i=>i≤l.length) (fun i=>l.length-i) 0 ?_ ?_ ?_
 ·apply Le.of<;>simp[qU,qG,qO,qH,qP,qK,qF,qI,qJ,qN,zKx]<;>try omega
 ·simp
 rintro i hi KL hN hE
 refine qM (cf:=cf0) laid mixed _ _ _ (by kernel_rfl) ?_
 by_cases hlt:i<l.length
 ·have hlt':(i:Int)<l.length:=by omega
  have hga:=zQi l i hlt
  have hta:=zQ0 l i hlt
  have hpa:=zNp szA l (i+1)
  have hpa2:zKx (l.take (i+1))≤zKx l:=hpa
  obtain⟨a,ha⟩:∃a,a=l[i]:=⟨_,rfl⟩
  rw[←ha]at hga hta
  have hsz:szA a=1+a.picks.length+szO a.one.outs+szR a.one.reads:=rfl
  have hol:=zKn a.one.outs
  have hrl:=zNa a.one.reads
  simp (disch:=omega) [zz,hlt',hga,zJt,y3,zJY,zU,qF]
  obtain⟨S,hS⟩:∃S,S=zKx (l.take i):=⟨_,rfl⟩
  rw[←hS]at hta ⊢
  refine AT.loop' (α:=Nat) (fun j=>St.of [(0,.av (.slice 32) (.sl .no (l.map zJt))),(3,.av (.int .i64) (.i .i64 (S+(1+a.picks.length)+szO (a.one.outs.take j)))),(5,.loc 5 []),(10,.av (.slice 32) (.sl .no (l.map zJt))),(11,.av (.int .i64) (.i .i64 l.length)),(12,.av (.int .i64) (.i .i64 i)),(24,.av (.slice 36) (.sl .no (a.one.outs.map jZ))),(25,.av (.int .i64) (.i .i64 a.one.outs.length)),(26,.av (.int .i64) (.i .i64 j))] [(5,(UI,zJt a))] (fun _=>0) [])
   (fun j=>j≤a.one.outs.length) (fun j=>a.one.outs.length-j) 0 ?_ ?_ ?_
  ·apply Le.of<;>simp[qU,qG,qO,qH,qP,qK,qF,qI,qJ,qN,szO,zJt,y3,zJY,zU,qF]<;>try omega
  ·simp
  rintro j hj KL2 hN2 hE2
  refine qM (cf:=cf0) laid mixed _ _ _ (by kernel_rfl) ?_
  by_cases hlt2:j<a.one.outs.length
  ·have hlt2':(j:Int)<a.one.outs.length:=by omega
   have hgf:=zK1 a.one.outs j hlt2
   have htf:=zR9 a.one.outs j hlt2
   have hpf:=zNp (fun f:U1=>f.path.length+f.data.length+1) a.one.outs (j+1)
   have hpf2:szO (a.one.outs.take (j+1))≤szO a.one.outs:=hpf
   obtain⟨f,hf⟩:∃f,f=a.one.outs[j]:=⟨_,rfl⟩
   rw[←hf]at hgf htf
   simp (disch:=omega) [zz,hlt2',hgf,jZ]
   refine hN2 _ (j+1) ?_ (by omega) (by omega)
   apply Le.of<;>simp[qU,qG,qO,qH,qP,qK,qF,qI,qJ,qN,htf]<;>try omega
  ·have hlt2':¬(j:Int)<a.one.outs.length:=by omega
   have htk:a.one.outs.take j=a.one.outs:=List.take_of_length_le (by omega)
   rw[htk]
   simp (disch:=omega) [zz,hlt2']
   refine hE2 _ _ (by simp) ?_
   simp (disch:=omega) [zz,zJt,y3,qF]
   refine AT.loop' (α:=Nat) (fun j=>St.of [(0,.av (.slice 32) (.sl .no (l.map zJt))),(3,.av (.int .i64) (.i .i64 (S+(1+a.picks.length)+szO a.one.outs+szR (a.one.reads.take j)))),(10,.av (.slice 32) (.sl .no (l.map zJt))),(11,.av (.int .i64) (.i .i64 l.length)),(12,.av (.int .i64) (.i .i64 i)),(43,.av (.slice 105) (.sl .no (a.one.reads.map qI))),(44,.av (.int .i64) (.i .i64 a.one.reads.length)),(45,.av (.int .i64) (.i .i64 j))] [] (fun _=>0) [])
    (fun j=>j≤a.one.reads.length) (fun j=>a.one.reads.length-j) 0 ?_ ?_ ?_
   ·apply Le.of<;>simp[qU,qG,qO,qH,qP,qK,qF,qI,qJ,qN,szR]<;>try omega
   ·simp
   rintro k hk KL3 hN3 hE3
   refine qM (cf:=cf0) laid mixed _ _ _ (by kernel_rfl) ?_
   by_cases hlt3:k<a.one.reads.length
   ·have hlt3':(k:Int)<a.one.reads.length:=by omega
    have hgf:=zPH a.one.reads k hlt3
    have htf:=zQP a.one.reads k hlt3
    have hpf:=zNp (fun r:XF=>r.path.length+10) a.one.reads (k+1)
    have hpf2:szR (a.one.reads.take (k+1))≤szR a.one.reads:=hpf
    obtain⟨f,hf⟩:∃f,f=a.one.reads[k]:=⟨_,rfl⟩
    rw[←hf]at hgf htf
    simp (disch:=omega) [zz,hlt3',hgf,qI]
    refine hN3 _ (k+1) ?_ (by omega) (by omega)
    apply Le.of<;>simp[qU,qG,qO,qH,qP,qK,qF,qI,qJ,qN,htf]<;>try omega
   ·have hlt3':¬(k:Int)<a.one.reads.length:=by omega
    have htk3:a.one.reads.take k=a.one.reads:=List.take_of_length_le (by omega)
    rw[htk3]
    simp (disch:=omega) [zz,hlt3']
    refine hE3 _ _ (by simp) ?_
    simp (disch:=omega) [zz]
    refine hN _ (i+1) ?_ (by omega) (by omega)
    apply Le.of<;>simp[qU,qG,qO,qH,qP,qK,qF,qI,qJ,qN,hta,hsz]<;>try omega
 ·have hlt':¬(i:Int)<l.length:=by omega
  have htk:l.take i=l:=List.take_of_length_le (by omega)
  rw[htk]
  simp (disch:=omega) [zz,hlt']
  refine hE _ _ (by simp) ?_
  by_cases h1:2500<zKx l
  ·have h1':(2500:Int)<zKx l:=by omega
   simp (disch:=omega) [zz,h1',h1,Tryz.f8,zKK]
  ·have h1':¬(2500:Int)<zKx l:=by omega
   have h2:((25:Int)<l.length)↔25<l.length:=by omega
   simp (disch:=omega) [zz,h1',h1,h2,Tryz.f8,zKK]
def kdI (n:Int):Dig:=UInt8.ofNat n.toNat::List.replicate 31 0
noncomputable def trO (o:zJk):zaP:=⟨kdI (o.key % 4),o.reads,o.outs.map zJF⟩
noncomputable def zML (o:zJk):TV:=.tup [(TrT,qK (trO o)),(.slice 36,zU o.outs)]
theorem zS2 (n:Int) (h0:0≤n) (h:n<256):AV.agg (.i .u8 n::List.replicate 31 (.i .u8 0))=KW (kdI n):=by
 have:((UInt8.ofNat n.toNat).toNat:Int)=n:=by
  rw[UInt8.toNat_ofNat'];omega
 simp only[KW,kdI,List.map_cons,this,List.map_replicate]
 rfl
abbrev zSI:Cfg:=⟨fun n=>n==1,fun n=>n==37||n==1000006||n==2000033⟩
set_option maxHeartbeats 16000000 in
theorem zom (o:zJk) (hk:0≤o.key) (hk2:o.key<256) (hol:o.outs.length≤1000000000) (hd:∀f∈o.outs,f.data.length≤1000000000) (ho:o.odd=0):PC Tryz.prog 14 [.av zSb (y3 o)] (zML o):=by
 refine q7.sub (R:=fun r H'=>r=zML o) ?_ (fun r H' hr _=>⟨[],HSub.of_sub (List.nil_sublist _),hr,rfl⟩)
 refine zov Tryz.func14 zSI fun imm0 w0=>?_
 have htm:o.key.tmod 4=o.key % 4:=Int.tmod_eq_emod_of_nonneg hk
 have hke:=zS2 (o.key % 4) (by omega) (by omega)
 simp only[List.reduceReplicate]at hke
 obtain⟨q,hq⟩:∃q,q=kdI (o.key % 4):=⟨_,rfl⟩
 rw[←hq]at hke
 have hoe:zU o.outs=.sl .no (o.outs.map jZ):=rfl
 simp (disch:=omega) [zz,y3]
 intro b
 simp (disch:=omega) [zz,hoe,wB,htm,hke]
 (repeat with_reducible refine om ?_)
 obtain⟨G,hG⟩:∃G:Nat→List AV,G=fun i=>((o.outs.take i).map zJF).map qN:=⟨_,rfl⟩
 have hG0:G 0=[]:=by rw[hG];rfl
 have hGn:G o.outs.length=(o.outs.map zJF).map qN:=by rw[hG];simp only[List.take_length]
 have hGl:∀i,i≤o.outs.length→(G i).length=i:=fun i h=>by rw[hG];simp;omega
 have hGs:∀i (h:i<o.outs.length),G (i+1)=G i++[qN (zJF o.outs[i])]:=fun i h=>by rw[hG];simp only[List.take_succ_eq_append_getElem h,List.map_append,List.map_cons,List.map_nil]
 refine AT.loop' (α:=Nat) (fun i=>St.of [(1,.av .ptr (.ptr b zSb [])),(2,.loc 2 []),(4,.loc 4 []),(5,.av (.slice 36) (.sl (.own 19 1) (o.outs.map jZ))),(21,.av (.slice 36) (.sl .no (o.outs.map jZ))),(22,.av (.int .i64) (.i .i64 o.outs.length)),(23,.av (.int .i64) (.i .i64 i))] [(2,(TrT,.agg [KW zc4,.sl .full [],.sl .full []])),(4,(TrT,.agg [KW q,qF o.reads,.sl (tkR 36 i) (G i)]))] (fun j=>if j=19 then 1 else if j=36 then i else 0) [(b,.var zSb (y3 o))])
  (fun i=>i≤o.outs.length) (fun i=>o.outs.length-i) 0 ?_ ?_ ?_
 ·apply Le.of<;>simp[qU,qG,qO,qH,qP,qK,qF,qI,qJ,qN,zCZ,tkR,y3,hoe,hG0]<;>try omega
 ·simp
 rintro i hi KL hN hE
 refine qM (cf:=zSI) laid mixed _ _ _ (by kernel_rfl) ?_
 by_cases hlt:i<o.outs.length
 ·have hlt':(i:Int)<o.outs.length:=by omega
  have hgf:=zK1 o.outs i hlt
  have hml:=hGl i hi
  have hmt:=hGs i hlt
  have hdl:=hd _ (List.getElem_mem hlt)
  obtain⟨f,hf⟩:∃f,f=o.outs[i]:=⟨_,rfl⟩
  rw[←hf]at hgf hmt hdl
  have hsum:=zNr f.data (by omega)
  have hms:qN (zJF f)=.agg [.s f.path,KW (sha f.data)]:=rfl
  rw[hms]at hmt
  cases i with
  | zero =>
   rw[hG0]at hmt
   simp only[List.nil_append,Nat.zero_add]at hmt
   simp (disch:=omega) [zz,hG0,hlt',hlt,hgf,jZ,tkR]
   refine jW.of [0,1,2,3,4,5,6,7,8,9,10,11] [0,1,2,3] (by kernel_rfl) ?_
   simp (disch:=omega) [zz]
   (repeat with_reducible refine om ?_)
   refine zcv hsum ?_
   simp (disch:=omega) [zz,wB]
   (repeat with_reducible refine om ?_)
   refine hN _ 1 ?_ (by omega) (by omega)
   apply Le.of<;>simp[qU,qG,qO,qH,qP,qK,qF,qI,qJ,qN,tkR,hmt]<;>try omega
   all_goals (intro j;by_cases hj:j=36<;>by_cases hj2:j=19<;>simp_all)
  | succ i =>
   have hlt2:(i:Int)+1<o.outs.length:=by omega
   have hge:(0:Int)≤(i:Int)+1:=by omega
   simp (disch:=omega) [zz,hlt2,hlt,hgf,jZ,tkR,hml,hge]
   refine jW.of [0,1,2,3,4,5,6,7,8,9,10,11] [0,1,2,3] (by kernel_rfl) ?_
   simp (disch:=omega) [zz,hml]
   (repeat with_reducible refine om ?_)
   refine zcv hsum ?_
   simp (disch:=omega) [zz,wB,hml]
   (repeat with_reducible refine om ?_)
   refine hN _ (i+2) ?_ (by omega) (by omega)
   apply Le.of<;>simp[qU,qG,qO,qH,qP,qK,qF,qI,qJ,qN,tkR,hmt]<;>try omega
   all_goals (intro j;by_cases hj:j=36<;>by_cases hj2:j=19<;>simp_all)
 ·have hie:i=o.outs.length:=by omega
  subst hie
  have hlt':¬(o.outs.length:Int)<o.outs.length:=by omega
  simp (disch:=omega) [zz,hlt']
  refine hE _ _ (by simp) ?_
  have hfin:zML o=.tup [(TrT,.agg [KW q,qF o.reads,.sl .no (G o.outs.length)]),(.slice 36,.sl .no (o.outs.map jZ))]:=by rw[hq,hGn];rfl
  have he1:AV.ers (G o.outs.length)=G o.outs.length:=by rw[hGn];simp[AV.ers_eq,Function.comp_def]
  have he2:AV.ers (o.outs.map jZ)=o.outs.map jZ:=by simp[AV.ers_eq,Function.comp_def,zKm]
  by_cases h0:0<o.outs.length
  ·have h0':¬o.outs.length=0:=by omega
   simp (disch:=omega) [zz,h0,ho,y3]
   simp (disch:=omega) [zz,Tryz.f14,hfin,he1,he2]
  ·have h0':o.outs.length=0:=by omega
   simp (disch:=omega) [zz,h0,h0',ho,y3]
   have he3:AV.ers (G 0)=G o.outs.length:=by rw[h0',hG0];rfl
   simp (disch:=omega) [zz,Tryz.f14,hfin,he3,he2]
end Go.Proofs.YtcioeonlclpacaaGreatDoor
end
