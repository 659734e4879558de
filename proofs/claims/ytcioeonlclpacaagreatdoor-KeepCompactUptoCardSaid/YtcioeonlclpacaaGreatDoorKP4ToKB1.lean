/- All that is kept, as records: plain. No condition beyond each theorem's own. -/
import Derived.Test.YtcioeonlclpacaaGreatDoorI0ToKP3
import Derived.Test.YtcioeonlclpacaaGreatDoorVCaToP14
import Derived.Test.YtcioeonlclpacaaGreatDoorE3To
import Derived.Test.YtcioeonlclpacaaGreatDoorP1ToP7
import Derived.Test.YtcioeonlclpacaaGreatDoorP8ToE4a
import Derived.Test.YtcioeonlclpacaaGreatDoorE2ToE5
set_option linter.unusedSimpArgs false
set_option linter.unusedVariables false
set_option linter.unusedSectionVars false
section
set_option maxRecDepth 100000
namespace Go.Proofs.YtcioeonlclpacaaGreatDoor
open Go Go.Ab
open Classical
variable [Sel] [SelPow] [SelErr]
def wtD (bl:BlL) (d:Dig):Nat:=match bl.find? fun p=>decide (p.1=d)with
 | some p=>wtB p.2
 | none=>0
structure zKF (x:MV) (T:Nat) (s:zKv):Prop where
 wt:wtR s.2=T+(s.1.map (wtD x.bl)).sum
 nd:s.1.Nodup
 is:∀d∈s.1,d∈x.bl.map Prod.fst
theorem zKz {l:BlL} {d:Dig} {p:Dig × List UInt8} (h:l.find? (fun p=>decide (p.1=d))=some p):p∈l∧p.1=d:=⟨List.mem_of_find?_eq_some h,by simpa using List.find?_some h⟩
theorem zKF.recM {x:MV} {T:Nat} {s:zKv} (h:zKF x T s) (m:Made):zKF x T (recM x.bl m s):=by
 unfold Go.Proofs.YtcioeonlclpacaaGreatDoor.recM
 cases hf:x.bl.find? (fun p=>decide (p.1=m.sum))with
 | none=>exact h
 | some p =>
  simp only
  by_cases hm:m.sum∈s.1
  ·rw[if_pos hm];exact h
  rw[if_neg hm]
  obtain⟨h1,h2⟩:=zKz hf
  refine⟨?_,?_,?_⟩
  ·have hw:wtD x.bl m.sum=wtB p.2:=by simp only[wtD,hf]
   have:=h.wt
   simp only[zP1,List.map_append,List.sum_append,List.map_cons,List.map_nil,List.sum_cons,List.sum_nil,hw,this]
   simp only[wtR,List.map_cons,List.map_nil,List.sum_cons,List.sum_nil,wtB];omega
  ·rw[List.nodup_append]
   refine⟨h.nd,by simp,?_⟩
   intro a ha b hb
   simp only[List.mem_singleton]at hb
   subst hb
   rintro rfl
   exact hm ha
  ·intro d hd
   rcases List.mem_append.1 hd with hd|hd
   ·exact h.is d hd
   ·simp only[List.mem_singleton]at hd
    subst hd
    exact List.mem_map.2 ⟨p,h1,h2⟩
theorem zKF.recMs {x:MV} {T:Nat}:∀(l:List Made) {s:zKv},zKF x T s→zKF x T (l.foldl (fun s m=>Go.Proofs.YtcioeonlclpacaaGreatDoor.recM x.bl m s) s)
 | [],_,h=>h
 | m::l,_,h=>zKF.recMs l (h.recM m)
theorem zKF.recT {x:MV} {T:Nat} {s:zKv} (h:zKF x T s) (t:zaP):zKF x (T+wtT t) (recT x.bl t s):=by
 have h2:=h.recMs t.outs
 unfold Go.Proofs.YtcioeonlclpacaaGreatDoor.recT
 refine⟨?_,h2.nd,h2.is⟩
 have:=h2.wt
 simp only[zP1,this]
 simp only[wtR,List.map_cons,List.map_nil,List.sum_cons,List.sum_nil,wtT];omega
theorem zKF.recTs {x:MV}:∀(l:List zaP) {T:Nat} {s:zKv},zKF x T s→zKF x (T+zKH l) (l.foldl (fun s t=>Go.Proofs.YtcioeonlclpacaaGreatDoor.recT x.bl t s) s)
 | [],T,_,h=>by simpa[zKH]using h
 | t::l,T,_,h=>by
  have:=zKF.recTs l (h.recT t)
  rw[Nat.add_assoc]at this
  exact this
theorem zKF.recK {x:MV} {T:Nat} {s:zKv} (h:zKF x T s) (k:Dig):zKF x (T+zKH (getD x.L k)) (recK x k s):=by
 have:=h.recTs (getD x.L k).reverse
 rw[zQp]at this
 exact this
theorem zKF.recKs {x:MV}:∀(l:List Dig) {T:Nat} {s:zKv},zKF x T s→zKF x (T+(l.map fun k=>zKH (getD x.L k)).sum) (l.foldl (fun s k=>Go.Proofs.YtcioeonlclpacaaGreatDoor.recK x k s) s)
 | [],T,_,h=>by simpa using h
 | k::l,T,_,h=>by
  have:=zKF.recKs l (h.recK k)
  rw[Nat.add_assoc]at this
  exact this
theorem zQL {l l':List Nat} (h:l.Perm l'):l.sum=l'.sum:=by
 induction h with
 | nil=>rfl
 | cons x _ ih=>simp only[List.sum_cons,ih]
 | swap x y l=>simp only[List.sum_cons];omega
 | trans _ _ h1 h2=>exact h1.trans h2
theorem zPc {l l':List Nat} (h:l.Sublist l'):l.sum≤l'.sum:=by
 induction h with
 | slnil=>exact Nat.le_refl _
 | cons x _ ih=>simp only[List.sum_cons];omega
 | cons_cons x _ ih=>simp only[List.sum_cons];omega
theorem zWq {L:DbL} (h:OKD L):((zKJ (L.map Prod.fst)).map fun k=>zKH (getD L k)).sum=zN8 L:=by
 have hp:=(zKE (L.map Prod.fst)).1.map fun k=>zKH (getD L k)
 rw[zQL hp,List.map_map,zN8]
 congr 1
 refine List.map_congr_left fun p hp=>?_
 simp only[Function.comp_def]
 rw[zQv h.1 hp]
theorem zW4 (p:Dig × List UInt8) (r:BlL):∀(hd:List Dig),hd.Nodup→(hd.map (wtD (p::r))).sum≤(if p.1∈hd then wtB p.2 else 0)+((hd.filter fun d=>decide (d≠p.1)).map (wtD r)).sum
 | [],_=>by simp
 | d::hd,h=>by
  simp only[List.nodup_cons]at h
  have ih:=zW4 p r hd h.2
  by_cases hp:d=p.1
  ·have e:wtD (p::r) d=wtB p.2:=by simp[wtD,hp]
   have hni:p.1∉hd:=hp▸h.1
   rw[if_neg hni]at ih
   rw[List.map_cons,List.sum_cons,e,if_pos (by simp[hp]),List.filter_cons_of_neg (by simp[hp])]
   omega
  ·have hp':¬p.1=d:=fun e=>hp e.symm
   have e:wtD (p::r) d=wtD r d:=by simp[wtD,hp']
   rw[List.map_cons,List.sum_cons,e,List.filter_cons_of_pos (by simp[hp]),List.map_cons,List.sum_cons]
   have:(p.1∈d::hd)=(p.1∈hd):=by simp[hp']
   simp only[this]
   omega
theorem zWA:∀ {bl:BlL},(bl.map Prod.fst).Nodup→∀ {hd:List Dig},hd.Nodup→(∀d∈hd,d∈bl.map Prod.fst)→(hd.map (wtD bl)).sum≤zLL bl
 | [],_,hd,_,h2=>by
  have:hd=[]:=List.eq_nil_iff_forall_not_mem.2 fun d hd'=>by have:=h2 d hd';simp at this
  subst this;simp
 | p::r,h,hd,h1,h2=>by
  simp only[List.map_cons,List.nodup_cons]at h
  have hc:=zW4 p r hd h1
  have ih:=zWA h.2 (hd:=hd.filter fun d=>decide (d≠p.1)) (List.filter_sublist.nodup h1) (fun d hd'=>by
   obtain⟨g1,g2⟩:=List.mem_filter.1 hd'
   have:=h2 d g1
   simp only[List.map_cons,List.mem_cons]at this
   rcases this with e|e
   ·simp[e]at g2
   ·exact e)
  have e:zLL (p::r)=wtB p.2+zLL r:=rfl
  rw[e]
  split at hc<;>omega
theorem zX2 (x:MV) (h:OKD x.L):zKF x (zN8 x.L) (zO2 x):=by
 have:=zKF.recKs (x:=x) (T:=0) (s:=([],[])) (zKJ (x.L.map Prod.fst)) ⟨rfl,List.nodup_nil,by simp⟩
 rw[zWq h,Nat.zero_add]at this
 exact this
theorem zVd {mo N:Nat} {x:MV} (h:zJu mo N x):wtR (zO2 x).2≤N:=by
 have hI:=zX2 x h.ok
 have:=zWA h.nd hI.nd hI.is
 have:=hI.wt
 have:=h.le
 omega
theorem zO3 (q:Dig × List UInt8→Bool) (l:BlL):zLL (l.filter q)≤zLL l:=zPc (List.filter_sublist.map _)
theorem zJu.only {mo N:Nat} {x:MV} (h:zJu mo N x):zJu mo N (zSg x) :=
 ⟨h.ok,h.tr,h.row,h.rn,(List.filter_sublist.map _).nodup h.nd,fun p hp=>h.sh p (List.mem_filter.1 hp).1,by have:=zO3 (fun p=>decide (p.1∈(zO2 x).1)) x.bl;have:=h.le;unfold zSg;simp only;omega⟩
structure g8 (N:Nat) (d:DV):Prop where
 ok:DOK d
 m:szF d.m≤N
 n:szF d.n≤N
theorem g8.up {N N':Nat} {d:DV} (h:g8 N d) (hN:N≤N'):g8 N' d:=⟨h.ok,Nat.le_trans h.m hN,Nat.le_trans h.n hN⟩
theorem zOQ (x:List UInt8) (o:Option FV):szF (some (zKf x o))=szF o+x.length:=by cases o<;>simp[zKf,szF]
theorem g8.append {N:Nat} {d:DV} (h:g8 N d) (b:Bool) (x:List UInt8):g8 (N+x.length) (kW b x d).1:=by
 refine⟨zKk h.ok,?_,?_⟩<;>unfold kW<;>split
 ·have:=h.m;simp only;omega
 ·have h1:=h.m
  cases b
  ·have:=zOQ x d.m;simp only[zJC,g5,Bool.false_eq_true,if_false]at this ⊢;omega
  ·simp only[zJC,if_true,c7];omega
 ·have:=h.n;simp only;omega
 ·have h1:=h.n
  cases b
  ·simp only[zJC,Bool.false_eq_true,if_false,c7];omega
  ·have:=zOQ x d.n;simp only[zJC,g5,if_true]at this ⊢;omega
theorem g8.sync {N:Nat} {d:DV} (h:g8 N d) (b:Bool):g8 N (c8 b d).1:=by
 have h1:=h.m
 have h2:=h.n
 refine⟨zNM h.ok,?_,?_⟩<;>unfold c8<;>cases b<;>simp only[g5,if_true,Bool.false_eq_true,if_false]
 ·cases hm:d.m with
  | none=>simp only[hm,szF];omega
  | some f=>rw[hm]at h1;simp only[szF]at h1;simp only;split<;>simp_all[zJC,szF]
 ·cases hn:d.n with
  | none=>exact h1
  | some f=>simp only;split<;>simp_all[zJC,szF,c7]
 ·cases hm:d.m with
  | none=>exact h2
  | some f=>simp only;split<;>simp_all[zJC,szF,c7]
 ·cases hn:d.n with
  | none=>simp only[hn,szF];omega
  | some f=>rw[hn]at h2;simp only[szF]at h2;simp only;split<;>simp_all[zJC,szF]
theorem g8.rename {N:Nat} {d:DV} (h:g8 N d):g8 N (zb1 d).1:=by
 have h1:=h.m
 have h2:=h.n
 refine⟨zOA h.ok,?_,?_⟩<;>unfold zb1
 ·cases hn:d.n with
  | none=>exact h1
  | some f=>rw[hn]at h2;simp only;split<;>simp_all
 ·cases hn:d.n with
  | none=>exact h2
  | some f=>simp only;split<;>simp_all[szF]
theorem g8.remove {N:Nat} {d:DV} (h:g8 N d):g8 N (zJd d).1:=by
 have h1:=h.m
 have h2:=h.n
 refine⟨zM4 h.ok,?_,?_⟩<;>unfold zJd
 ·cases hn:d.n with
  | none=>exact h1
  | some f=>simp only;split<;>simp_all
 ·cases hn:d.n with
  | none=>exact h2
  | some f=>simp only;split<;>simp_all[szF]
theorem g8.tidy {N:Nat} {d:DV} (h:g8 N d):g8 N (W2 d).1:=by
 unfold W2;split
 ·exact h.remove
 ·exact h
theorem zLT {d:DV} (h:(W2 d).2=0):(W2 d).1.n=none∧(W2 d).1.m=d.m:=by
 unfold W2 at h ⊢
 split
 ·rename_i hs
  rw[if_pos hs]at h
  unfold zJd at h ⊢
  cases hn:d.n with
  | none=>rw[hn]at hs;cases hs
  | some f =>
   rw[hn]at h
   simp only at h ⊢
   split
   ·rename_i hl;rw[if_pos hl]at h;cases h
   ·exact⟨rfl,rfl⟩
 ·rename_i hs
  refine⟨?_,rfl⟩
  cases hn:d.n with
  | none=>rfl
  | some f=>rw[hn]at hs;simp at hs
theorem g8.appendN {N:Nat} {d:DV} (h:g8 N d) (hn:d.n=none) {x:List UInt8} (hx:x.length≤N):g8 N (kW true x d).1:=by
 refine⟨zKk h.ok,?_,?_⟩<;>unfold kW<;>split
 ·exact h.m
 ·exact h.m
 ·exact h.n
 ·simpa[zJC,g5,hn,zKf,szF]using hx
theorem g8.thn {N:Nat} {r:DV × Int} {f:DV→DV × Int} (h:g8 N r.1) (hf:∀d,g8 N d→g8 N (f d).1):g8 N (thn r f).1:=by
 unfold Go.Proofs.YtcioeonlclpacaaGreatDoor.thn;split
 ·exact hf _ h
 ·exact h
theorem g8.anew {N:Nat} {d:DV} (h:g8 N d) (hn:d.n=none) {x:List UInt8} (hx:x.length≤N):g8 N (zJn x d).1 :=
 g8.thn (g8.thn (h.appendN hn hx) fun _ h=>h.sync true) fun _ h=>h.rename
theorem g8.crash {N:Nat} {d:DV} (h:g8 N d) (ps:List Int):g8 N (zJh ps d):=by
 refine⟨zPO h.ok,?_,?_⟩<;>unfold zJh<;>simp only
 ·cases hc:(zJy ps d.m).1 with
  | none=>simp[szF]
  | some f=>exact Nat.le_trans (zKO h.ok.1 f hc).2.2 h.m
 ·cases hc:(zJy (zJy ps d.m).2 d.n).1 with
  | none=>simp[szF]
  | some f=>exact Nat.le_trans (zKO h.ok.2.1 f hc).2.2 h.n
theorem g8.budget {N:Nat} {d:DV} (h:g8 N d) {n:Int} (hn:n≤9223372036854775807):g8 N (zJs n d):=⟨zOh h.ok hn,h.m,h.n⟩
theorem zQV (o:Option FV):(zK6 o).length=szF o:=by cases o<;>rfl
theorem g8.openJ {N:Nat} {d:DV} (h:g8 N d):g8 N (openJ d).1∧wtR (openJ d).2.2≤N:=by
 unfold Go.Proofs.YtcioeonlclpacaaGreatDoor.openJ
 split
 ·rename_i ht
  obtain⟨t1,t2⟩:=zLT ht
  have hd:=h.tidy
  obtain⟨s1,s2,s3⟩:=zM0 _ (b:=zK6 (W2 d).1.m) (Nat.le_refl _)
  have hm:=hd.m
  rw[←zQV]at hm
  have hw:wtR (zJc (zK6 (W2 d).1.m))≤N:=by rw[←zLW];omega
  unfold zKc
  simp only
  split
  ·refine⟨hd.anew t1 (by rw[List.length_take];omega),?_⟩
   show wtR (if _ then _ else _)≤N
   split
   ·exact hw
   ·simp[wtR]
  ·exact⟨hd,hw⟩
 ·exact⟨h.tidy,by simp[wtR]⟩
theorem g8.addJ {N:Nat} {j:JV} (h:g8 N j.d) (r:List UInt8):g8 (N+(12+r.length)) (addJ r j).1.d:=by
 unfold Go.Proofs.YtcioeonlclpacaaGreatDoor.addJ
 split
 ·exact h.up (by omega)
 split
 ·exact h.up (by omega)
 ·have:=h.append false (frame r)
  rw[zJq]at this
  exact g8.thn this fun _ h=>h.sync false
theorem g8.swapJ {N:Nat} {j:JV} (h:g8 N j.d) {l:List (List UInt8)} (hl:wtR l≤N):g8 N (swapJ l j).1.d:=by
 unfold Go.Proofs.YtcioeonlclpacaaGreatDoor.swapJ
 split
 ·exact h
 split
 ·exact h
 ·show g8 N (Go.Proofs.YtcioeonlclpacaaGreatDoor.thn (W2 j.d) (zJn (q5 l))).1
  unfold Go.Proofs.YtcioeonlclpacaaGreatDoor.thn
  split
  ·rename_i ht
   exact h.tidy.anew (zLT ht).1 (by rw[zLW];exact hl)
  ·exact h.tidy
theorem zJS.of {N:Nat} {k:KV} (h:zJS N k):g8 N k.j.d:=⟨h.ok,h.m,h.n⟩
theorem zJS.mk' {N:Nat} {k:KV} (h:zJu k.mo N k.M) (hd:g8 N k.j.d) (h1:1≤k.mo) (h8:k.mo≤8):zJS N k:=⟨h,hd.ok,hd.m,hd.n,h1,h8⟩
theorem zMV {N:Nat} {mo:Int} {d:DV} (h:g8 N d):g8 N (zJv mo d).1∧∀k,(zJv mo d).2.1=some k→zJS N k∧k.j.d=(zJv mo d).1∧k.mo=mo.toNat∧(zJv mo d).2.2=0∧k.j.br=false:=by
 obtain⟨h1,h2⟩:=h.openJ
 unfold zJv
 split
 ·exact⟨h,fun k hk=>by cases hk⟩
 split
 ·exact⟨h1,fun k hk=>by cases hk⟩
 split
 ·exact⟨h1,fun k hk=>by cases hk⟩
 ·rename_i g1 g2 g3
  refine⟨h1,fun k hk=>?_⟩
  cases hk
  refine⟨zJS.mk' ?_ h1 (by simp only;omega) (by simp only;omega),rfl,rfl,rfl,rfl⟩
  have:=zJu.loads (mo:=mo.toNat) (by omega) zJu.nil (l:=(Go.Proofs.YtcioeonlclpacaaGreatDoor.openJ d).2.2) (y:=(j5 mo.toNat (Go.Proofs.YtcioeonlclpacaaGreatDoor.openJ d).2.2 ⟨[],[]⟩).1) (by rw[←Classical.not_not.1 g3])
  exact this.up (by omega)
def wtO (l:List U1):Nat:=(l.map fun f=>wtB f.data).sum
theorem zKj {mo:Nat} {L:DbL}:∀ {l:List U1} {N:Nat} {j:JV} {bl:BlL},zJu mo N ⟨L,bl⟩→g8 N j.d→zJu mo (N+wtO l) ⟨L,(q6 l j bl).2.1⟩∧g8 (N+wtO l) (q6 l j bl).1.d
 | [],N,j,bl,h,hd=>⟨h.up (by simp),hd.up (by simp)⟩
 | f::l,N,j,bl,h,hd=>by
  have e:wtO (f::l)=wtB f.data+wtO l:=rfl
  rw[q6,e]
  split
  ·obtain⟨a,b⟩:=zKj (l:=l) h hd
   exact⟨a.up (by omega),b.up (by omega)⟩
  have ha:=hd.addJ (zJf f.data)
  split
  ·obtain⟨a,b⟩:=zKj (l:=l) (h.put f.data) ha
   exact⟨a.up (by unfold wtB;omega),b.up (by unfold wtB;omega)⟩
  ·exact⟨h.up (by omega),ha.up (by unfold wtB;omega)⟩
theorem zLx {N:Nat} {k:KV} (h:zJS N k) {t:zaP} (ht:TrD t) (outs:List U1):zJS (N+(wtO outs+wtT t)) (g6 t outs k).1∧(g6 t outs k).1.mo=k.mo:=by
 obtain⟨h1,h2⟩:=zKj (l:=outs) h.mem h.of
 have h3:=h2.addJ (zJG t)
 unfold g6
 split
 ·exact⟨zJS.mk' (h.mem.up (by omega)) (h.of.up (by omega)) h.lo h.hi,rfl⟩
 split
 ·exact⟨zJS.mk' (h.mem.up (by omega)) (h.of.up (by omega)) h.lo h.hi,rfl⟩
 split
 ·exact⟨zJS.mk' (h1.up (by omega)) (h2.up (by omega)) h.lo h.hi,rfl⟩
 split
 ·exact⟨zJS.mk' (h1.up (by omega)) (h3.up (by unfold wtT;omega)) h.lo h.hi,rfl⟩
 ·rename_i g1 _ _ _
  refine⟨zJS.mk' ?_ (h3.up (by unfold wtT;omega)) h.lo h.hi,rfl⟩
  exact(h1.add h.lo ⟨ht,Classical.not_not.1 g1⟩).up (by omega)
theorem zV2 {N:Nat} {k:KV} (h:zJS N k):zJS N (zUW k).1∧(zUW k).1.mo=k.mo:=by
 have hw:=zVd h.mem
 have hd:=h.of.swapJ hw
 unfold zUW
 split
 ·exact⟨zJS.mk' h.mem.only hd h.lo h.hi,rfl⟩
 ·exact⟨zJS.mk' h.mem hd h.lo h.hi,rfl⟩
theorem zWC (l:List (List UInt8)) (k:Nat) (h:k<l.length):wtR (l.take (k+1))=wtR (l.take k)+(12+l[k].length):=by
 rw[List.take_succ_eq_append_getElem h,zP1];rfl
theorem zX9 (l:List (List UInt8)) (k:Nat):wtR (l.take k)≤wtR l:=by
 have:=zP1 (l.take k) (l.drop k)
 rw[List.take_append_drop]at this;omega
theorem zRP (l:List (List UInt8)):l.length≤wtR l:=by
 induction l with
 | nil=>simp
 | cons r l ih=>have e:wtR (r::l)=12+r.length+wtR l:=rfl;rw[e,List.length_cons];omega
theorem zW0 (l:List (List UInt8)) (k:Nat) (h:k<l.length):q5 (l.take (k+1))=q5 (l.take k)++frame l[k]:=by
 rw[List.take_succ_eq_append_getElem h];simp only[q5,List.flatMap_append,List.flatMap_cons,List.flatMap_nil,List.append_nil]
abbrev zXa:Cfg:=⟨fun n=>n==5,fun n=>n==5⟩
set_option maxHeartbeats 8000000 in
theorem zWO (J B M:Nat) (hJ:JOK J B M) (l:List (List UInt8)) (hl:wtR l≤10000000000) (o:Bool) (j:JV) (hd:DOK j.d) (hn:szF j.d.n≤10000000000) :
  q7 Tryz.prog 62 [.av .ptr (.ptr J JnT []),.av (.slice 9) (.sl .no (zz6 l))] (jH J B M o j) fun r H'=>r=.av (.int .i64) (.i .i64 (swapJ l j).2)∧JnR J B M (swapJ l j).1 H':=by
 refine q7.sub (R:=fun r H'=>r=.av (.int .i64) (.i .i64 (swapJ l j).2)∧∃H2,Ab.HSub H2 H'∧JnR J B M (swapJ l j).1 H2) ?_ (fun r H' ⟨h1,H2,h2,h3⟩ _=>⟨H2,h2,h1,h3⟩)
 obtain⟨d,br⟩:=j
 simp only at hd hn
 have hll:=zRP l
 refine zov Tryz.func62 zXa fun imm0 w0=>?_
 cases br with
 | true =>
  have ha:swapJ l ⟨d,true⟩=(⟨d,true⟩,19):=by unfold swapJ;rw[if_pos rfl]
  simp (disch:=omega) [zz,jH,jnO,ha,Tryz.f62]
  exact⟨_,HSub.refl _,o,rfl⟩
 | false =>
 simp (disch:=omega) [zz,jH,jnO]
 intro b5 h51 h52
 have h51':¬J=b5:=fun e=>h51 e.symm
 refine AT.loop' (α:=Nat × q8) (fun x=>St.of [(0,.av .ptr (.ptr J JnT [])),(5,.av .ptr (.ptr b5 QR [])),(19,.av (.slice 9) (.sl .no (zz6 l))),(20,.av (.int .i64) (.i .i64 l.length)),(21,.av (.int .i64) (.i .i64 x.1))] [] (fun _=>0) (x.2++jH J B M o ⟨d,false⟩))
  (fun x=>x.1≤l.length∧BS b5 (q5 (l.take x.1)) x.2∧∀r∈l.take x.1,r.length≤1048576) (fun x=>l.length-x.1) (0,[(b5,.var QR (.agg [.nilptr,.nsl]))]) ?_ ?_ ?_
 ·apply Le.of<;>simp[qU,qG,qO,qH,qP,qK,qF,qI,qJ,qN,jH,jnO]<;>try omega
 ·exact⟨by simp,.fresh _ (.inl rfl) (by simp[q5]),by simp⟩
 rintro⟨k,Hb⟩ ⟨hk,hB,hs⟩ KL hN hE
 simp only at hk hB hs hN
 have hBe:=hB.er
 refine qM (cf:=zXa) laid mixed _ _ _ (by kernel_rfl) ?_
 by_cases hlt:k<l.length
 ·have hlt':(k:Int)<l.length:=by omega
  have hg:=zzr l k hlt
  have hwt:=zWC l k hlt
  have hwl:=zX9 l (k+1)
  have hfr:=zQl l[k] (by omega)
  have hft:=zW0 l k hlt
  have hfl2:=zLW (l.take k)
  have hfl3:=zJq l[k]
  obtain⟨r,hr⟩:∃r,r=l[k]:=⟨_,rfl⟩
  rw[←hr]at hg hwt hfr hft hfl3
  simp (disch:=omega) [zz,hlt',hg]
  refine zcv hfr ?_
  by_cases hbig:1048576<r.length
  ·have ha:swapJ l ⟨d,false⟩=(⟨d,false⟩,6):=by
    unfold swapJ
    rw[if_neg (by simp),if_pos (List.any_eq_true.2 ⟨r,hr▸List.getElem_mem hlt,by simpa using hbig⟩)]
   rw[if_pos hbig,if_pos hbig]
   simp (disch:=omega) [zz]
   refine hE _ _ (by simp) ?_
   simp (disch:=omega) [zz,Tryz.f62,ha,q8.er_app,hBe]
   exact⟨_,HSub.of_sub (List.sublist_append_right _ _),o,rfl⟩
  ·rw[if_neg hbig,if_neg hbig]
   simp (disch:=omega) [zz]
   refine qE (R:=fun y H'=>y=.tup [(.int .i64,.i .i64 (frame r).length),(.iface,.nilifc)]∧BS b5 (q5 (l.take k)++frame r) H') Hb (jH J B M o ⟨d,false⟩) (by simp) rfl (by simp[qQ]) (by simp) ?_ ?_
   ·rw[hBe]
    simpa[TV.er,AV.er]using zp2 b5 (q5 (l.take k)) (frame r) Hb hB (by omega)
   rintro y H1 ⟨rfl,hB1⟩ _
   refine⟨_,HSub.refl _,?_⟩
   simp (disch:=omega) [zz]
   refine hN _ (k+1,H1) ?_ ⟨by simp only;omega,by simp only;rw[hft];exact hB1,?_⟩ (by simp only;omega)
   ·apply Le.of<;>simp[qU,qG,qO,qH,qP,qK,qF,qI,qJ,qN,]<;>try omega
   ·intro y hy
    simp only at hy
    rw[List.take_succ_eq_append_getElem hlt,←hr]at hy
    rcases List.mem_append.1 hy with hy|hy
    ·exact hs y hy
    ·rw[List.mem_singleton.1 hy];omega
 ·have hlt':¬(k:Int)<l.length:=by omega
  have hkl:k=l.length:=by omega
  subst hkl
  rw[List.take_of_length_le (Nat.le_refl _)]at hB hs
  have hany:(l.any fun r=>decide (1048576<r.length))=false:=by
   rw[List.any_eq_false]
   intro r hr
   have:=hs r hr
   simp;omega
  have ha:swapJ l ⟨d,false⟩=(⟨(thn (W2 d) (zJn (q5 l))).1,decide ((thn (W2 d) (zJn (q5 l))).2≠0)⟩,(thn (W2 d) (zJn (q5 l))).2):=by
   unfold swapJ;rw[if_neg (by simp),hany,if_neg (by simp)]
  have hfl:=zLW l
  simp (disch:=omega) [zz,hlt']
  refine hE _ _ (by simp) ?_
  simp (disch:=omega) [zz]
  refine zO7 Hb J B M hJ o d hd (List.Perm.refl _) (by simp[qQ]) (by simp[qS,TV.er,AV.er,AV.ers]) fun o'=>?_
  by_cases ht:(W2 d).2=0
  ·rw[zQX _ ht]at ha
   have hn2:=(zLT ht).1
   have hd2:=zPU hd
   simp (disch:=omega) [zz,ht]
   refine qE (R:=fun y H'=>y=.av .str (.s (q5 l))) Hb (jH J B M o' ⟨(W2 d).1,false⟩) (by simp) rfl (by simp[qQ]) (by simp) ?_ ?_
   ·rw[hBe]
    simpa[TV.er,AV.er]using zav b5 (q5 l) Hb hB (by omega)
   rintro y H1 rfl _
   refine⟨jH J B M o' ⟨(W2 d).1,false⟩,HSub.of_sub (List.sublist_append_right _ _),?_⟩
   simp (disch:=omega) [zz]
   refine zOe [] J B M hJ o' _ hd2 (q5 l) (by rw[hn2];simp only[szF];omega) (by simp) (by simp[qQ]) (by simp[qS,TV.er,AV.er]) fun o2=>?_
   simp (disch:=omega) [zz,Tryz.f62,ha]
   exact⟨_,HSub.refl _,o2,rfl⟩
  ·rw[zOT _ ht]at ha
   simp (disch:=omega) [zz,ht,Tryz.f62,ha,q8.er_app,hBe]
   exact⟨_,HSub.of_sub (List.sublist_append_right _ _),o',rfl⟩
abbrev StS:TyD:=.slice 9
def zJW (B M:Nat) (x:DV × Int × List (List UInt8)) (r:TV) (H':q8):Prop :=
 (x.2.1≠0∧r=.tup [(.ptr,.nilptr),(StS,.sl .no []),(.int .i64,.i .i64 x.2.1)]∧zJN B M x.1 H')∨
 (x.2.1=0∧∃J,J≠B∧J≠M∧r=.tup [(.ptr,.ptr J JnT []),(StS,.sl .no (zz6 x.2.2)),(.int .i64,.i .i64 0)]∧JnR J B M ⟨x.1,false⟩ H')
theorem zJW.bad {B M:Nat} {x:DV × Int × List (List UInt8)} {r:TV} {H':q8} (h:x.2.1≠0) (hr:r=.tup [(.ptr,.nilptr),(StS,.sl .no []),(.int .i64,.i .i64 x.2.1)]) (hH:zJN B M x.1 H'):zJW B M x r H':=.inl ⟨h,hr,hH⟩
theorem zJW.good {B M J:Nat} {o:Bool} {x:DV × Int × List (List UInt8)} {r:TV} {H':q8} (h:x.2.1=0) (h1:J≠B) (h2:J≠M) (hr:r=.tup [(.ptr,.ptr J JnT []),(StS,.sl .no (zz6 x.2.2)),(.int .i64,.i .i64 0)]) (hH:H'=jH J B M o ⟨x.1,false⟩):zJW B M x r H' :=
 .inr ⟨h,J,h1,h2,hr,o,hH⟩
abbrev zTh:Cfg:=⟨fun n=>n==23,fun _=>false⟩
set_option maxHeartbeats 8000000 in
theorem zR7 (B M:Nat) (hBM:M≠B) (o:Bool) (d:DV) (hd:DOK d) (hm:szF d.m≤1000000000) (hn:szF d.n≤10000000000) :
  q7 Tryz.prog 42 [.av .ptr (.ptr B zJB []),.av .str (.s nmK)] (j4 B M o d) (zJW B M (openJ d)):=by
 refine q7.sub (R:=fun r H'=>∃H2,Ab.HSub H2 H'∧zJW B M (openJ d) r H2) ?_ (fun r H' ⟨H2,h2,h3⟩ _=>⟨H2,h2,h3⟩)
 have hk0:¬nmK=[]:=by decide
 refine zov Tryz.func42 zTh fun imm0 w0=>?_
 simp (disch:=omega) [zz,hk0]
 intro J hJ0
 simp[j4]at hJ0
 obtain⟨hJ1,hJ2⟩:=hJ0
 have hJ:JOK J B M:=⟨hBM,hJ1,hJ2⟩
 refine zO7 [] J B M hJ o d hd (by simp[jH,jnO]) (by simp[qQ]) (by simp[qS,TV.er,AV.er,AV.ers]) fun o1=>?_
 have hopen:openJ d=if (W2 d).2=0 then zKc (W2 d).1 else((W2 d).1,(W2 d).2,[]):=rfl
 have hd1:=zPU hd
 by_cases ht:(W2 d).2=0
 ·rw[if_pos ht]at hopen
  obtain⟨tn,tm⟩:=zLT ht
  obtain⟨d1,hd1e⟩:∃d1,d1=(W2 d).1:=⟨_,rfl⟩
  rw[←hd1e]at hopen tn tm hd1 ⊢
  simp (disch:=omega) [zz,ht]
  refine zLE [] J B M hJ o1 false ⟨d1,false⟩ (by simp) (by simp[qQ]) (by simp[qS,TV.er,AV.er,nmB]) ?_
  cases hmm:d1.m with
  | none =>
   have hg:(g5 false d1).isSome=false:=by simp[g5,hmm]
   have h2:zKc d1=(d1,0,[]):=by
    unfold zKc
    simp only[hmm,zK6,zKT,q5,List.flatMap_nil,List.length_nil,Nat.lt_irrefl,if_false]
   rw[h2]at hopen
   simp (disch:=omega) [zz,hg,Tryz.f42]
   exact⟨_,HSub.refl _,zJW.good (by rw[hopen]) hJ1 hJ2 (by rw[hopen];rfl) (by rw[hopen])⟩
  | some f =>
   have hg:(g5 false d1).isSome=true:=by simp[g5,hmm]
   have hgf:g5 false d1=some f:=hmm
   rw[←tm,hmm]at hm
   simp only[szF]at hm
   have hsc:=zgl f.data hm
   obtain⟨l,hl⟩:∃l,l=zJc f.data:=⟨_,rfl⟩
   obtain⟨sl1,sl2,sl3⟩:=zM0 _ (b:=f.data) (Nat.le_refl _)
   rw[←hl]at hsc sl1 sl2 sl3
   have h2:zKc d1=if (q5 l).length<f.data.length then((zJn (f.data.take (q5 l).length) d1).1,(zJn (f.data.take (q5 l).length) d1).2,if (zJn (f.data.take (q5 l).length) d1).2=0 then l else []) else(d1,0,l):=by
    unfold zKc
    simp only[hmm,zK6,←hl]
   rw[h2]at hopen
   simp (disch:=omega) [zz,hg]
   refine qE (j4 B M o1 d1) [(J,jnO B false)] (by simp only[jH];exact List.perm_append_comm (l₁:=[_])) rfl (by simp[qQ]) (by simp) (R:=fun r H'=>r=.tup [(.str,.s f.data),(.int .i64,.i .i64 0)]∧H'=j4 B M o1 d1) ?_ ?_
   ·have:=zR8 B M hBM o1 false d1
    rw[hgf]at this
    rw[zLQ]
    simpa[TV.er,AV.er,zK6,nmB]using this
   rintro r' H' ⟨rfl,rfl⟩ _
   refine⟨jH J B M o1 ⟨d1,false⟩,HSub.of_perm (List.perm_append_comm (l₁:=j4 B M o1 d1) (l₂:=[(J,jnO B false)])),?_⟩
   simp (disch:=omega) [zz]
   refine zcv hsc ?_
   by_cases hlt:(q5 l).length<f.data.length
   ·rw[if_pos hlt]at hopen
    have hlt':((q5 l).length:Int)<f.data.length:=by omega
    have hle':((q5 l).length:Int)≤f.data.length:=by omega
    simp (disch:=omega) [zz,hlt',hle']
    refine zOe [] J B M hJ o1 d1 hd1 (f.data.take (q5 l).length) (by rw[tn,List.length_take];simp only[szF];omega) (by simp) (by simp[qQ]) (by simp[qS,TV.er,AV.er]) fun o2=>?_
    by_cases he:(zJn (f.data.take (q5 l).length) d1).2=0
    ·rw[if_pos he]at hopen
     simp (disch:=omega) [zz,he,Tryz.f42]
     exact⟨_,HSub.refl _,zJW.good (by rw[hopen];exact he) hJ1 hJ2 (by rw[hopen]) (by rw[hopen])⟩
    ·rw[if_neg he]at hopen
     simp (disch:=omega) [zz,he,Tryz.f42]
     exact⟨_,HSub.of_sub (List.sublist_cons_self _ _),zJW.bad (by rw[hopen];exact he) (by rw[hopen]) (by rw[hopen];exact zJN.of)⟩
   ·rw[if_neg hlt]at hopen
    have hlt':¬((q5 l).length:Int)<f.data.length:=by omega
    simp (disch:=omega) [zz,hlt',Tryz.f42]
    exact⟨_,HSub.refl _,zJW.good (by rw[hopen]) hJ1 hJ2 (by rw[hopen]) (by rw[hopen])⟩
 ·rw[if_neg ht]at hopen
  simp (disch:=omega) [zz,ht,Tryz.f42]
  exact⟨_,HSub.of_sub (List.sublist_cons_self _ _),zJW.bad (by rw[hopen];exact ht) (by rw[hopen]) (by rw[hopen];exact zJN.of)⟩
end Go.Proofs.YtcioeonlclpacaaGreatDoor
end
section
set_option maxRecDepth 100000
namespace Go.Proofs.YtcioeonlclpacaaGreatDoor
open Go Go.Ab
open Classical
variable [Sel]
@[simp] theorem zkV:qZ Tryz.prog 127=true:=by kernel_rfl
@[simp] theorem zr0:z8 Tryz.prog (.func 127)=false:=q9 zkV
@[simp] theorem zAm:qZ Tryz.prog 172=true:=by kernel_rfl
@[simp] theorem zAV:z8 Tryz.prog (.func 172)=false:=q9 zAm
noncomputable def bmO (l:List (Dig × List UInt8)):HObj:=.map 46 9 (stE l)
abbrev BmT:TyD:=.map 46 9
noncomputable def bbO (M:Nat):HObj:=.var BmT (.map (some M))
abbrev zXe:Cfg:=⟨fun n=>n==1,fun _=>false⟩
theorem zWx (M:Nat):q7 Tryz.prog 127 [.av BmT (.map (some M))] [] fun r H'=>∃c,r=.av .func (.fn 172 [.ptr c BmT []])∧H'=[(c,bbO M)]:=by
 refine zov Tryz.func127 zXe fun imm0 w0=>?_
 (simp (maxSteps:=2000000) (disch:=first|omega|assumption) [zz,-List.reduceReplicate])
 intro c
 (simp (maxSteps:=2000000) (disch:=first|omega|assumption) [zz,-List.reduceReplicate,Tryz.f127,bbO,AV.ers])
set_option maxHeartbeats 4000000 in
theorem zWb {G:List Dig→q8→Prop} (y c M:Nat) (hcM:c≠M) (l:List (Dig × List UInt8)) (en:Array MapEntry) (ck:Nat) (i0:Nat→Nat) (w1:World) (hop:gM Tryz.prog 46 9 (stE l) en ck i0 w1)
  (hGe:∀done H,G done H→H.er=H)
  (hY:∀done (k:Dig) H,k∈l.map (·.1)→done.length<l.length→G done H→YC Tryz.prog y [.av (.arr 32 5) (KW k)] H fun r H'=>r=.av .bool (.b true)∧G (done++[k]) H') :
  ∀H,G [] H→q7 Tryz.prog 172 [.av .func (.yl y),.av .ptr (.ptr c BmT [])] ((c,bbO M)::(M,.raw (.map en ck) i0 w1)::H)
   fun r H'=>r=.tup []∧∃done H1 it o,done.Perm (l.map (·.1))∧G done H1∧H'=(it,o)::(c,bbO M)::(M,.raw (.map en ck) i0 w1)::H1:=by
 intro H hG
 have hMc:¬M=c:=fun e=>hcM e.symm
 refine zov Tryz.func172 cf0 fun imm0 w0=>?_
 (simp (maxSteps:=2000000) (disch:=first|omega|assumption) [zz,-List.reduceReplicate,bbO,hcM,hMc])
 intro it hit hiM _
 have hit':¬c=it:=fun e=>hit e.symm
 have hiM':¬M=it:=fun e=>hiM e.symm
 have hsz:en.size=l.length:=by have:=p5 hop.ents;simpa[stE]using this.symm
 refine AT.loop' (α:=List Nat × q8) (fun p=>St.of [(0,.av .func (.yl y)),(1,.av .ptr (.ptr c BmT [])),(5,.av .ptr (.ptr it .other []))] [] (fun _=>0) ((it,.raw (.mapIter (some M) ck (xK en p.1) ck) (fun _=>0) default)::(c,bbO M)::(M,.raw (.map en ck) i0 w1)::p.2))
  (fun p=>p.1.Nodup∧(∀i∈p.1,i<en.size)∧G (XL (l.map (·.1)) p.1) p.2) (fun p=>en.size-p.1.length) ([],H) ?_ ?_ ?_
 ·apply Le.of<;>simp[qU,qG,bbO,xK]<;>try omega
 ·exact⟨List.nodup_nil,by simp,hG⟩
 rintro⟨ids,H1⟩ ⟨hnd,hlt,hG1⟩ KL hN hE
 simp only at hnd hlt hG1
 refine qM (cf:=cf0) laid mixed _ _ _ (by kernel_rfl) ?_
 (simp (maxSteps:=2000000) (disch:=first|omega|assumption) [zz,-List.reduceReplicate,bbO,hit,hiM,hit',hiM',hcM,hMc,zeg])
 refine⟨46,9,stE l,hop,fun hall=>?_,fun i me u v hi hns hes=>?_⟩
 ·refine hE _ _ (by simp) ?_
  have hperm:(XL (l.map (·.1)) ids).Perm (l.map (·.1)):=by
   refine zdP hnd (fun i hi=>by have:=hlt i hi;simpa[hsz]using this) fun i hi=>?_
   have hi':i<en.size:=by simpa[hsz]using hi
   exact(cV hop.st hlt (Array.getElem?_eq_getElem hi')).1 (hall i _ (Array.getElem?_eq_getElem hi'))
  have hH:=hGe _ _ hG1
  (simp (maxSteps:=2000000) (disch:=first|omega|assumption) [zz,-List.reduceReplicate,Tryz.f172,hH,HObj.er])
  exact⟨_,hperm,hG1⟩
 ·have hil:i<en.size:=(Array.getElem?_eq_some_iff.1 hi).1
  have hni:i∉ids:=fun h=>hns ((cV hop.st hlt hi).2 h)
  have hic:i<l.length:=by omega
  have hu:u=KW l[i].1:=by
   simp only[stE]at hes
   rw[List.getElem?_map,List.getElem?_eq_getElem hic]at hes
   have:=Option.some.inj hes
   exact(congrArg Prod.fst this).symm
  subst hu
  rw[zdQ en ids hi]
  refine⟨46,9,stE l,hop,i,me,hi,KW l[i].1,v,hes,rfl,?_⟩
  (simp (maxSteps:=2000000) (disch:=first|omega|assumption) [zz,-List.reduceReplicate])
  have hkm:l[i].1∈l.map (·.1):=List.mem_map.2 ⟨l[i],List.getElem_mem hic,rfl⟩
  have hGn:XL (l.map (·.1)) (ids++[i])=XL (l.map (·.1)) ids++[l[i].1]:=by
   simp[XL,List.getElem?_eq_getElem hic]
  have hnd2:(ids++[i]).Nodup:=List.nodup_append.2 ⟨hnd,by simp,fun a ha b hb e=>by simp only[List.mem_singleton]at hb;subst hb;exact hni (e▸ha)⟩
  have hlt2:∀k∈ids++[i],k<en.size:=fun k hk=>by
   rcases List.mem_append.1 hk with h|h
   ·exact hlt k h
   ·simp only[List.mem_singleton]at h;omega
  have hle2:=gK en.size _ hnd2 hlt2
  refine JY (R:=fun r H'=>r=.av .bool (.b true)∧G (XL (l.map (·.1)) (ids++[i])) H') H1 [(it,.raw (.mapIter (some M) ck (xK en (ids++[i])) ck) (fun _=>0) default),(c,bbO M),(M,.raw (.map en ck) i0 w1)] (List.perm_append_comm (l₁:=[_,_,_])) (by simp[qQ]) ?_ ?_
  ·rw[hGe _ _ hG1,hGn]
   have:=hY _ _ _ hkm (by simp only[XL,List.length_map];simp at hle2;omega) hG1
   simpa[TV.er]using this
  rintro r H2 ⟨rfl,hG2⟩ _
  refine⟨(it,.raw (.mapIter (some M) ck (xK en (ids++[i])) ck) (fun _=>0) default)::(c,bbO M)::(M,.raw (.map en ck) i0 w1)::H2,HSub.of_perm (List.perm_append_comm (l₂:=[_,_,_])),?_⟩
  (simp (maxSteps:=2000000) (disch:=first|omega|assumption) [zz,-List.reduceReplicate])
  refine hN _ (ids++[i],H2) ?_ ⟨hnd2,hlt2,hG2⟩ (by simp at hle2 ⊢;omega)
  apply Le.of<;>simp[qU,qG,bbO]<;>try omega
theorem zWo {G:List Dig→q8→Prop} (y c M:Nat) (hcM:c≠M) (l:List (Dig × List UInt8)) (hGe:∀done H,G done H→H.er=H)
  (hY:∀done (k:Dig) H,k∈l.map (·.1)→done.length<l.length→G done H→YC Tryz.prog y [.av (.arr 32 5) (KW k)] H fun r H'=>r=.av .bool (.b true)∧G (done++[k]) H') (H:q8) (hG:G [] H) :
  q7 Tryz.prog 172 [.av .func (.yl y),.av .ptr (.ptr c BmT [])] ((M,bmO l)::(c,bbO M)::H)
   fun r H'=>r=.tup []∧∃done H1,done.Perm (l.map (·.1))∧G done H1∧H'=(M,bmO l)::(c,bbO M)::H1:=by
 refine q7.openMap fun en ck i0 w1 hop=>?_
 refine q7.conv (R:=fun r H'=>r=.tup []∧∃done H1,done.Perm (l.map (·.1))∧G done H1∧H'=(M,.raw (.map en ck) i0 w1)::(c,bbO M)::H1) ?_ ?_
 ·refine q7.sub (((zWb y c M hcM l en ck i0 w1 hop hGe hY H hG)).perm (List.Perm.swap _ _ _)) ?_
  rintro r H' ⟨rfl,done,H1,it,o,hp,hg,rfl⟩ _
  exact⟨_,⟨_,List.Perm.cons _ (List.Perm.swap _ _ _),(List.Sublist.refl _).cons _⟩,rfl,done,H1,hp,hg,rfl⟩
 ·rintro r H' ⟨rfl,done,H1,hp,hg,rfl⟩
  exact⟨(M,bmO l)::(c,bbO M)::H1,fun b hb=>hb,fun imm w h=>h.shutMap hop,rfl,done,H1,hp,hg,rfl⟩
theorem zWM (l:List (Dig × List UInt8)):(bmO l).er=bmO l:=by simp only[bmO,HObj.er_map,zTk]
theorem zWt (c M:Nat) (hcM:c≠M) (l:List (Dig × List UInt8)):zRp 172 c BmT [(M,bmO l),(c,bbO M)] (l.map (·.1)) :=
 ⟨by simp,by simp only[q8.er_cons,q8.er_nil,zWM l];rfl,fun G y hGe hY H hG=>zWo y c M hcM l hGe (fun done k H _ h2 h3=>hY done k H (by simpa using h2) h3) H hG⟩
@[simp] theorem zkQ:qZ Tryz.prog 128=true:=by kernel_rfl
@[simp] theorem zq1:z8 Tryz.prog (.func 128)=false:=q9 zkQ
abbrev zXf:Cfg:=⟨fun n=>n==2||n==3,fun n=>n==1000001||n==2000007⟩
theorem zWl (a b:Dig) (ha:a.length=32) (hb:b.length=32) :
  PC Tryz.prog 128 [.av (.arr 32 5) (KW a),.av (.arr 32 5) (KW b)] (.av (.int .i64) (.i .i64 (Lib.compareBytes a b))):=by
 refine zow Tryz.func128 zXf fun imm0 w0=>?_
 (simp (maxSteps:=2000000) (disch:=first|omega|assumption) [zz,-List.reduceReplicate])
 intro b2 b3 h23
 have h23':¬b2=b3:=fun e=>h23 e.symm
 refine jW.of [0,1,2,3] [] (by kernel_rfl) ?_
 (simp (maxSteps:=2000000) (disch:=first|omega|assumption) [zz,-List.reduceReplicate,h23,h23'])
 (repeat with_reducible refine om ?_)
 refine qE (R:=fun r H'=>r=.av (.int .i64) (.i .i64 (Lib.compareBytes a b))∧H'=[(b2,dgO a),(b3,dgO b)]) [(b2,dgO a),(b3,dgO b)] [] (List.Perm.swap _ _ _) rfl (by simp[qQ]) (by simp) ?_ ?_
 ·have:=zRh a b ha hb b2 b3 h23'
  simpa[TV.er,AV.er,dgO,HObj.er_var,q8.er_cons,q8.er_nil,AV.erk]using this
 rintro r' H' ⟨rfl,rfl⟩ _
 refine⟨_,HSub.refl _,?_⟩
 (simp (maxSteps:=2000000) (disch:=first|omega|assumption) [zz,-List.reduceReplicate,Tryz.f128])
theorem zWz:zSx 128:=⟨enters_of Tryz.func128 (by kernel_rfl) rfl,fun a b h1 h2=>zWl a b h1 h2⟩
end Go.Proofs.YtcioeonlclpacaaGreatDoor
end
section
set_option maxRecDepth 100000
namespace Go.Proofs.YtcioeonlclpacaaGreatDoor
open Go Go.Ab
open Classical
variable [Sel] [SelPow] [SelErr]
@[simp] theorem zoy:qZ Tryz.prog 63=true:=by kernel_rfl
@[simp] theorem zrF:z8 Tryz.prog (.func 63)=false:=q9 zoy
@[simp] theorem znB:qZ Tryz.prog 64=true:=by kernel_rfl
@[simp] theorem zsd:z8 Tryz.prog (.func 64)=false:=q9 znB
@[simp] theorem zo3:qZ Tryz.prog 54=true:=by kernel_rfl
@[simp] theorem zrg:z8 Tryz.prog (.func 54)=false:=q9 zo3
noncomputable def stB (B M:Nat) (l:BlL):q8:=stO B M l (szB l)
@[simp] theorem zOl (B M:Nat) (l:BlL):(stB B M l).er=stB B M l:=zSo B M l _
theorem zRC {d:Dig} {x:List UInt8} {l:BlL} (h:l.find? (fun p=>decide (p.1=d))=none):szB (l++[(d,x)])=szB l+x.length:=by simp[szB]
theorem zQe (s:List UInt8):s.length≤(zJf s).length:=by
 simp only[zJf,zyI,List.length_append,List.length_cons,blobW];omega
theorem zN7:∀l:BlL,szB l≤zLL l
 | []=>Nat.le_refl _
 | p::l=>by
  have ih:=zN7 l
  have h:=zQe p.2
  have e1:szB (p::l)=p.2.length+szB l:=rfl
  have e2:zLL (p::l)=wtB p.2+zLL l:=rfl
  unfold wtB at e2
  omega
set_option maxHeartbeats 4000000 in
theorem zNY (B M:Nat) (hBM:M≠B) (l:BlL) (hl:szB l≤1000000000000) (x:List UInt8) (hx:x.length≤1000000000) :
  q7 Tryz.prog 52 [.av .ptr (.ptr B zKp []),.av .str (.s x)] (stB B M l) fun r H'=>r=.av (qD Tryz.prog 46) (KW (sha x))∧H'=stB B M (zJm (sha x) x l):=by
 have hBM':¬B=M:=fun e=>hBM e.symm
 have hfd:=zLm (sha x) l
 refine zov Tryz.func52 zSH fun imm0 w0=>?_
 simp (disch:=omega) [zz]
 refine qL (znJ x (by omega)) rfl rfl (by simp) (by simp[qS,TV.er,AV.er,AV.ers,zfI]) ?_
 cases hf:l.find? (fun p=>decide (p.1=sha x))with
 | some p =>
  rw[hf]at hfd
  simp only[Option.map_some]at hfd
  have hpl:zJm (sha x) x l=l:=by simp only[zJm,hf]
  simp (disch:=omega) [zz,-List.reduceReplicate,stB,stO,hBM,hBM',hfd]
  (repeat with_reducible refine om ?_)
  simp (disch:=omega) [zz,-List.reduceReplicate,Tryz.f52,hpl]
 | none =>
  have hpt:=zNm (sha x) x l hf
  have hsz:=zRC (x:=x) hf
  rw[hf]at hfd
  simp only[Option.map_none]at hfd
  have hpl:zJm (sha x) x l=l++[(sha x,x)]:=by simp only[zJm,hf]
  simp (disch:=omega) [zz,-List.reduceReplicate,stB,stO,hBM,hBM',hfd,hpt]
  (repeat with_reducible refine om ?_)
  refine jW.of [0,1,2,3,4,5,6] [] (by kernel_rfl) ?_
  simp (disch:=omega) [zz,-List.reduceReplicate,stO,hBM,hBM',hfd,hpt]
  (repeat with_reducible refine om ?_)
  simp (disch:=omega) [zz,-List.reduceReplicate,Tryz.f52,hpl,hsz]
theorem zQa (B M:Nat) (l:BlL):q7 Tryz.prog 54 [.av .ptr (.ptr B zKp [])] (stB B M l) fun r H'=>r=.av (.int .i64) (.i .i64 (szB l))∧H'=stB B M l:=by
 refine zov Tryz.func54 cf0 fun imm0 w0=>?_
 simp (disch:=omega) [zz,stB,stO,Tryz.f54]
theorem zWk (d:Dig):∀l:BlL,(l.map Prod.fst).Nodup→zdc (KW d) (stE l)=stE (l.filter fun p=>decide (p.1≠d))
 | [],_=>rfl
 | (k,v)::l,h=>by
  simp only[List.map_cons,List.nodup_cons]at h
  have ih:=zWk d l h.2
  simp only[stE,List.map_cons,zdc,ziF]at ih ⊢
  by_cases hk:k=d
  ·subst hk
   have e:(l.filter fun p=>decide (p.1≠k))=l:=List.filter_eq_self.2 fun p hp=>by
    have:p.1≠k:=fun e=>h.1 (e▸List.mem_map.2 ⟨p,hp,rfl⟩)
    simpa using this
   rw[if_pos rfl,List.filter_cons_of_neg (by simp),e]
  ·simp only[hk,if_false]
   rw[ih,List.filter_cons_of_pos (by simpa using hk)]
   rfl
theorem zWg {d:Dig}:∀ {l:BlL},(l.map Prod.fst).Nodup→∀ {p},l.find? (fun p=>decide (p.1=d))=some p→szB (l.filter fun p=>decide (p.1≠d))+p.2.length=szB l
 | [],_,p,h=>by cases h
 | q::l,hn,p,h=>by
  simp only[List.map_cons,List.nodup_cons]at hn
  rw[List.find?_cons]at h
  by_cases hq:q.1=d
  ·simp only[hq,decide_true]at h
   cases h
   have e:(l.filter fun p=>decide (p.1≠d))=l:=List.filter_eq_self.2 fun p hp=>by
    have:p.1≠d:=fun e=>hn.1 (hq▸e▸List.mem_map.2 ⟨p,hp,rfl⟩)
    simpa using this
   rw[List.filter_cons_of_neg (by simp[hq]),e]
   simp only[szB,List.map_cons,List.sum_cons];omega
  ·simp only[hq,decide_false]at h
   have ih:=zWg hn.2 h
   rw[List.filter_cons_of_pos (by simpa using hq)]
   simp only[szB,List.map_cons,List.sum_cons]at ih ⊢
   omega
end Go.Proofs.YtcioeonlclpacaaGreatDoor
end
