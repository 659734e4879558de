/- All that is kept, as records: plain. No condition beyond each theorem's own. -/
import Derived.Test.YtcioeonlclpacaaGreatDoorI0ToKP3
import Derived.Test.YtcioeonlclpacaaGreatDoorVCaToP14
import Derived.Test.YtcioeonlclpacaaGreatDoorE3To
import Derived.Test.YtcioeonlclpacaaGreatDoorP1ToP7
import Derived.Test.YtcioeonlclpacaaGreatDoorKD0ToE4a
import Derived.Test.YtcioeonlclpacaaGreatDoorE2ToE5
set_option linter.unusedSimpArgs false
set_option linter.unusedVariables false
set_option linter.unusedSectionVars false
section
set_option maxRecDepth 100000
namespace Go.Proofs.YtcioeonlclpacaaGreatDoor
open Go Go.Ab
open Classical
variable [Sel] [SelPow] [SelErr]
def wtD (bl:BlL) (d:Dig):Nat:=match bl.find? fun p=>decide (p.1=d)with
 | some p=>wtB p.2
 | none=>0
structure zKF (x:MV) (T:Nat) (s:zKv):Prop where
 wt:wtR s.2=T+(s.1.map (wtD x.bl)).sum
 nd:s.1.Nodup
 is:∀d∈s.1,d∈x.bl.map Prod.fst
theorem zKz {l:BlL} {d:Dig} {p:Dig × List UInt8} (h:l.find? (fun p=>decide (p.1=d))=some p):p∈l∧p.1=d:=⟨List.mem_of_find?_eq_some h,by simpa using List.find?_some h⟩
theorem zKF.recM {x:MV} {T:Nat} {s:zKv} (h:zKF x T s) (m:Made):zKF x T (recM x.bl m s):=by
 unfold Go.Proofs.YtcioeonlclpacaaGreatDoor.recM
 cases hf:x.bl.find? (fun p=>decide (p.1=m.sum))with
 | none=>exact h
 | some p =>
  simp only
  by_cases hm:m.sum∈s.1
  ·rw[if_pos hm];exact h
  rw[if_neg hm]
  obtain⟨h1,h2⟩:=zKz hf
  refine⟨?_,?_,?_⟩
  ·have hw:wtD x.bl m.sum=wtB p.2:=by simp only[wtD,hf]
   have:=h.wt
   simp only[zP1,List.map_append,List.sum_append,List.map_cons,List.map_nil,List.sum_cons,List.sum_nil,hw,this]
   simp only[wtR,List.map_cons,List.map_nil,List.sum_cons,List.sum_nil,wtB];omega
  ·rw[List.nodup_append]
   refine⟨h.nd,by simp,?_⟩
   intro a ha b hb
   simp only[List.mem_singleton]at hb
   subst hb
   rintro rfl
   exact hm ha
  ·intro d hd
   rcases List.mem_append.1 hd with hd|hd
   ·exact h.is d hd
   ·simp only[List.mem_singleton]at hd
    subst hd
    exact List.mem_map.2 ⟨p,h1,h2⟩
theorem zKF.recMs {x:MV} {T:Nat}:∀(l:List Made) {s:zKv},zKF x T s→zKF x T (l.foldl (fun s m=>Go.Proofs.YtcioeonlclpacaaGreatDoor.recM x.bl m s) s)
 | [],_,h=>h
 | m::l,_,h=>zKF.recMs l (h.recM m)
theorem zKF.recT {x:MV} {T:Nat} {s:zKv} (h:zKF x T s) (t:zaP):zKF x (T+wtT t) (recT x.bl t s):=by
 have h2:=h.recMs t.outs
 unfold Go.Proofs.YtcioeonlclpacaaGreatDoor.recT
 refine⟨?_,h2.nd,h2.is⟩
 have:=h2.wt
 simp only[zP1,this]
 simp only[wtR,List.map_cons,List.map_nil,List.sum_cons,List.sum_nil,wtT];omega
theorem zKF.recTs {x:MV}:∀(l:List zaP) {T:Nat} {s:zKv},zKF x T s→zKF x (T+zKH l) (l.foldl (fun s t=>Go.Proofs.YtcioeonlclpacaaGreatDoor.recT x.bl t s) s)
 | [],T,_,h=>by simpa[zKH]using h
 | t::l,T,_,h=>by
  have:=zKF.recTs l (h.recT t)
  rw[Nat.add_assoc]at this
  exact this
theorem zKF.recK {x:MV} {T:Nat} {s:zKv} (h:zKF x T s) (k:Dig):zKF x (T+zKH (getD x.L k)) (recK x k s):=by
 have:=h.recTs (getD x.L k).reverse
 rw[zQp]at this
 exact this
theorem zQL {l l':List Nat} (h:l.Perm l'):l.sum=l'.sum:=by
 induction h with
 | nil=>rfl
 | cons x _ ih=>simp only[List.sum_cons,ih]
 | swap x y l=>simp only[List.sum_cons];omega
 | trans _ _ h1 h2=>exact h1.trans h2
theorem zPc {l l':List Nat} (h:l.Sublist l'):l.sum≤l'.sum:=by
 induction h with
 | slnil=>exact Nat.le_refl _
 | cons x _ ih=>simp only[List.sum_cons];omega
 | cons_cons x _ ih=>simp only[List.sum_cons];omega
theorem zO3 (q:Dig × List UInt8→Bool) (l:BlL):zLL (l.filter q)≤zLL l:=zPc (List.filter_sublist.map _)
theorem zJu.only {mo N:Nat} {x:MV} (h:zJu mo N x):zJu mo N (zSg x) :=
 ⟨h.ok,h.tr,h.row,h.rn,(List.filter_sublist.map _).nodup h.nd,fun p hp=>h.sh p (List.mem_filter.1 hp).1,by have:=zO3 (fun p=>decide (p.1∈(zO2 x).1)) x.bl;have:=h.le;unfold zSg;simp only;omega⟩
structure g8 (N:Nat) (d:DV):Prop where
 ok:DOK d
 m:szF d.m≤N
 n:szF d.n≤N
theorem g8.up {N N':Nat} {d:DV} (h:g8 N d) (hN:N≤N'):g8 N' d:=⟨h.ok,Nat.le_trans h.m hN,Nat.le_trans h.n hN⟩
theorem zOQ (x:List UInt8) (o:Option FV):szF (some (zKf x o))=szF o+x.length:=by cases o<;>simp[zKf,szF]
theorem g8.append {N:Nat} {d:DV} (h:g8 N d) (b:Bool) (x:List UInt8):g8 (N+x.length) (kW b x d).1:=by
 refine⟨zKk h.ok,?_,?_⟩<;>unfold kW<;>split
 ·have:=h.m;simp only;omega
 ·have h1:=h.m
  cases b
  ·have:=zOQ x d.m;simp only[zJC,g5,Bool.false_eq_true,if_false]at this ⊢;omega
  ·simp only[zJC,if_true,c7];omega
 ·have:=h.n;simp only;omega
 ·have h1:=h.n
  cases b
  ·simp only[zJC,Bool.false_eq_true,if_false,c7];omega
  ·have:=zOQ x d.n;simp only[zJC,g5,if_true]at this ⊢;omega
theorem g8.sync {N:Nat} {d:DV} (h:g8 N d) (b:Bool):g8 N (c8 b d).1:=by
 have h1:=h.m
 have h2:=h.n
 refine⟨zNM h.ok,?_,?_⟩<;>unfold c8<;>cases b<;>simp only[g5,if_true,Bool.false_eq_true,if_false]
 ·cases hm:d.m with
  | none=>simp only[hm,szF];omega
  | some f=>rw[hm]at h1;simp only[szF]at h1;simp only;split<;>simp_all[zJC,szF]
 ·cases hn:d.n with
  | none=>exact h1
  | some f=>simp only;split<;>simp_all[zJC,szF,c7]
 ·cases hm:d.m with
  | none=>exact h2
  | some f=>simp only;split<;>simp_all[zJC,szF,c7]
 ·cases hn:d.n with
  | none=>simp only[hn,szF];omega
  | some f=>rw[hn]at h2;simp only[szF]at h2;simp only;split<;>simp_all[zJC,szF]
theorem g8.rename {N:Nat} {d:DV} (h:g8 N d):g8 N (zb1 d).1:=by
 have h1:=h.m
 have h2:=h.n
 refine⟨zOA h.ok,?_,?_⟩<;>unfold zb1
 ·cases hn:d.n with
  | none=>exact h1
  | some f=>rw[hn]at h2;simp only;split<;>simp_all
 ·cases hn:d.n with
  | none=>exact h2
  | some f=>simp only;split<;>simp_all[szF]
theorem g8.remove {N:Nat} {d:DV} (h:g8 N d):g8 N (zJd d).1:=by
 have h1:=h.m
 have h2:=h.n
 refine⟨zM4 h.ok,?_,?_⟩<;>unfold zJd
 ·cases hn:d.n with
  | none=>exact h1
  | some f=>simp only;split<;>simp_all
 ·cases hn:d.n with
  | none=>exact h2
  | some f=>simp only;split<;>simp_all[szF]
theorem g8.tidy {N:Nat} {d:DV} (h:g8 N d):g8 N (W2 d).1:=by
 unfold W2;split
 ·exact h.remove
 ·exact h
theorem zLT {d:DV} (h:(W2 d).2=0):(W2 d).1.n=none∧(W2 d).1.m=d.m:=by
 unfold W2 at h ⊢
 split
 ·rename_i hs
  rw[if_pos hs]at h
  unfold zJd at h ⊢
  cases hn:d.n with
  | none=>rw[hn]at hs;cases hs
  | some f =>
   rw[hn]at h
   simp only at h ⊢
   split
   ·rename_i hl;rw[if_pos hl]at h;cases h
   ·exact⟨rfl,rfl⟩
 ·rename_i hs
  refine⟨?_,rfl⟩
  cases hn:d.n with
  | none=>rfl
  | some f=>rw[hn]at hs;simp at hs
theorem g8.appendN {N:Nat} {d:DV} (h:g8 N d) (hn:d.n=none) {x:List UInt8} (hx:x.length≤N):g8 N (kW true x d).1:=by
 refine⟨zKk h.ok,?_,?_⟩<;>unfold kW<;>split
 ·exact h.m
 ·exact h.m
 ·exact h.n
 ·simpa[zJC,g5,hn,zKf,szF]using hx
theorem g8.thn {N:Nat} {r:DV × Int} {f:DV→DV × Int} (h:g8 N r.1) (hf:∀d,g8 N d→g8 N (f d).1):g8 N (thn r f).1:=by
 unfold Go.Proofs.YtcioeonlclpacaaGreatDoor.thn;split
 ·exact hf _ h
 ·exact h
theorem g8.anew {N:Nat} {d:DV} (h:g8 N d) (hn:d.n=none) {x:List UInt8} (hx:x.length≤N):g8 N (zJn x d).1 :=
 g8.thn (g8.thn (h.appendN hn hx) fun _ h=>h.sync true) fun _ h=>h.rename
theorem g8.crash {N:Nat} {d:DV} (h:g8 N d) (ps:List Int):g8 N (zJh ps d):=by
 refine⟨zPO h.ok,?_,?_⟩<;>unfold zJh<;>simp only
 ·cases hc:(zJy ps d.m).1 with
  | none=>simp[szF]
  | some f=>exact Nat.le_trans (zKO h.ok.1 f hc).2.2 h.m
 ·cases hc:(zJy (zJy ps d.m).2 d.n).1 with
  | none=>simp[szF]
  | some f=>exact Nat.le_trans (zKO h.ok.2.1 f hc).2.2 h.n
theorem g8.budget {N:Nat} {d:DV} (h:g8 N d) {n:Int} (hn:n≤9223372036854775807):g8 N (zJs n d):=⟨zOh h.ok hn,h.m,h.n⟩
theorem zQV (o:Option FV):(zK6 o).length=szF o:=by cases o<;>rfl
theorem g8.openJ {N:Nat} {d:DV} (h:g8 N d):g8 N (openJ d).1∧wtR (openJ d).2.2≤N:=by
 unfold Go.Proofs.YtcioeonlclpacaaGreatDoor.openJ
 split
 ·rename_i ht
  obtain⟨t1,t2⟩:=zLT ht
  have hd:=h.tidy
  obtain⟨s1,s2,s3⟩:=zM0 _ (b:=zK6 (W2 d).1.m) (Nat.le_refl _)
  have hm:=hd.m
  rw[←zQV]at hm
  have hw:wtR (zJc (zK6 (W2 d).1.m))≤N:=by rw[←zLW];omega
  unfold zKc
  simp only
  split
  ·refine⟨hd.anew t1 (by rw[List.length_take];omega),?_⟩
   show wtR (if _ then _ else _)≤N
   split
   ·exact hw
   ·simp[wtR]
  ·exact⟨hd,hw⟩
 ·exact⟨h.tidy,by simp[wtR]⟩
theorem g8.addJ {N:Nat} {j:JV} (h:g8 N j.d) (r:List UInt8):g8 (N+(12+r.length)) (addJ r j).1.d:=by
 unfold Go.Proofs.YtcioeonlclpacaaGreatDoor.addJ
 split
 ·exact h.up (by omega)
 split
 ·exact h.up (by omega)
 ·have:=h.append false (frame r)
  rw[zJq]at this
  exact g8.thn this fun _ h=>h.sync false
theorem zJS.of {N:Nat} {k:KV} (h:zJS N k):g8 N k.j.d:=⟨h.ok,h.m,h.n⟩
theorem zJS.mk' {N:Nat} {k:KV} (h:zJu k.mo N k.M) (hd:g8 N k.j.d) (h1:1≤k.mo) (h8:k.mo≤8):zJS N k:=⟨h,hd.ok,hd.m,hd.n,h1,h8⟩
theorem zMV {N:Nat} {mo:Int} {d:DV} (h:g8 N d):g8 N (zJv mo d).1∧∀k,(zJv mo d).2.1=some k→zJS N k∧k.j.d=(zJv mo d).1∧k.mo=mo.toNat∧(zJv mo d).2.2=0∧k.j.br=false:=by
 obtain⟨h1,h2⟩:=h.openJ
 unfold zJv
 split
 ·exact⟨h,fun k hk=>by cases hk⟩
 split
 ·exact⟨h1,fun k hk=>by cases hk⟩
 split
 ·exact⟨h1,fun k hk=>by cases hk⟩
 ·rename_i g1 g2 g3
  refine⟨h1,fun k hk=>?_⟩
  cases hk
  refine⟨zJS.mk' ?_ h1 (by simp only;omega) (by simp only;omega),rfl,rfl,rfl,rfl⟩
  have:=zJu.loads (mo:=mo.toNat) (by omega) zJu.nil (l:=(Go.Proofs.YtcioeonlclpacaaGreatDoor.openJ d).2.2) (y:=(j5 mo.toNat (Go.Proofs.YtcioeonlclpacaaGreatDoor.openJ d).2.2 ⟨[],[]⟩).1) (by rw[←Classical.not_not.1 g3])
  exact this.up (by omega)
def wtO (l:List U1):Nat:=(l.map fun f=>wtB f.data).sum
theorem zKj {mo:Nat} {L:DbL}:∀ {l:List U1} {N:Nat} {j:JV} {bl:BlL},zJu mo N ⟨L,bl⟩→g8 N j.d→zJu mo (N+wtO l) ⟨L,(q6 l j bl).2.1⟩∧g8 (N+wtO l) (q6 l j bl).1.d
 | [],N,j,bl,h,hd=>⟨h.up (by simp),hd.up (by simp)⟩
 | f::l,N,j,bl,h,hd=>by
  have e:wtO (f::l)=wtB f.data+wtO l:=rfl
  rw[q6,e]
  split
  ·obtain⟨a,b⟩:=zKj (l:=l) h hd
   exact⟨a.up (by omega),b.up (by omega)⟩
  have ha:=hd.addJ (zJf f.data)
  split
  ·obtain⟨a,b⟩:=zKj (l:=l) (h.put f.data) ha
   exact⟨a.up (by unfold wtB;omega),b.up (by unfold wtB;omega)⟩
  ·exact⟨h.up (by omega),ha.up (by unfold wtB;omega)⟩
theorem zLx {N:Nat} {k:KV} (h:zJS N k) {t:zaP} (ht:TrD t) (outs:List U1):zJS (N+(wtO outs+wtT t)) (g6 t outs k).1∧(g6 t outs k).1.mo=k.mo:=by
 obtain⟨h1,h2⟩:=zKj (l:=outs) h.mem h.of
 have h3:=h2.addJ (zJG t)
 unfold g6
 split
 ·exact⟨zJS.mk' (h.mem.up (by omega)) (h.of.up (by omega)) h.lo h.hi,rfl⟩
 split
 ·exact⟨zJS.mk' (h.mem.up (by omega)) (h.of.up (by omega)) h.lo h.hi,rfl⟩
 split
 ·exact⟨zJS.mk' (h1.up (by omega)) (h2.up (by omega)) h.lo h.hi,rfl⟩
 split
 ·exact⟨zJS.mk' (h1.up (by omega)) (h3.up (by unfold wtT;omega)) h.lo h.hi,rfl⟩
 ·rename_i g1 _ _ _
  refine⟨zJS.mk' ?_ (h3.up (by unfold wtT;omega)) h.lo h.hi,rfl⟩
  exact(h1.add h.lo ⟨ht,Classical.not_not.1 g1⟩).up (by omega)
theorem zRP (l:List (List UInt8)):l.length≤wtR l:=by
 induction l with
 | nil=>simp
 | cons r l ih=>have e:wtR (r::l)=12+r.length+wtR l:=rfl;rw[e,List.length_cons];omega
abbrev StS:TyD:=.slice 9
def zJW (B M:Nat) (x:DV × Int × List (List UInt8)) (r:TV) (H':q8):Prop :=
 (x.2.1≠0∧r=.tup [(.ptr,.nilptr),(StS,.sl .no []),(.int .i64,.i .i64 x.2.1)]∧zJN B M x.1 H')∨
 (x.2.1=0∧∃J,J≠B∧J≠M∧r=.tup [(.ptr,.ptr J JnT []),(StS,.sl .no (zz6 x.2.2)),(.int .i64,.i .i64 0)]∧JnR J B M ⟨x.1,false⟩ H')
theorem zJW.bad {B M:Nat} {x:DV × Int × List (List UInt8)} {r:TV} {H':q8} (h:x.2.1≠0) (hr:r=.tup [(.ptr,.nilptr),(StS,.sl .no []),(.int .i64,.i .i64 x.2.1)]) (hH:zJN B M x.1 H'):zJW B M x r H':=.inl ⟨h,hr,hH⟩
theorem zJW.good {B M J:Nat} {o:Bool} {x:DV × Int × List (List UInt8)} {r:TV} {H':q8} (h:x.2.1=0) (h1:J≠B) (h2:J≠M) (hr:r=.tup [(.ptr,.ptr J JnT []),(StS,.sl .no (zz6 x.2.2)),(.int .i64,.i .i64 0)]) (hH:H'=jH J B M o ⟨x.1,false⟩):zJW B M x r H' :=
 .inr ⟨h,J,h1,h2,hr,o,hH⟩
abbrev zTh:Cfg:=⟨fun n=>n==23,fun _=>false⟩
set_option maxHeartbeats 8000000 in
theorem zR7 (B M:Nat) (hBM:M≠B) (o:Bool) (d:DV) (hd:DOK d) (hm:szF d.m≤1000000000) (hn:szF d.n≤10000000000) :
  q7 Tryz.prog 42 [.av .ptr (.ptr B zJB []),.av .str (.s nmK)] (j4 B M o d) (zJW B M (openJ d)):=by
 refine q7.sub (R:=fun r H'=>∃H2,Ab.HSub H2 H'∧zJW B M (openJ d) r H2) ?_ (fun r H' ⟨H2,h2,h3⟩ _=>⟨H2,h2,h3⟩)
 have hk0:¬nmK=[]:=by decide
 refine zov Tryz.func42 zTh fun imm0 w0=>?_
 simp (disch:=omega) [zz,hk0]
 intro J hJ0
 simp[j4]at hJ0
 obtain⟨hJ1,hJ2⟩:=hJ0
 have hJ:JOK J B M:=⟨hBM,hJ1,hJ2⟩
 refine zO7 [] J B M hJ o d hd (by simp[jH,jnO]) (by simp[qQ]) (by simp[qS,TV.er,AV.er,AV.ers]) fun o1=>?_
 have hopen:openJ d=if (W2 d).2=0 then zKc (W2 d).1 else((W2 d).1,(W2 d).2,[]):=rfl
 have hd1:=zPU hd
 by_cases ht:(W2 d).2=0
 ·rw[if_pos ht]at hopen
  obtain⟨tn,tm⟩:=zLT ht
  obtain⟨d1,hd1e⟩:∃d1,d1=(W2 d).1:=⟨_,rfl⟩
  rw[←hd1e]at hopen tn tm hd1 ⊢
  simp (disch:=omega) [zz,ht]
  refine zLE [] J B M hJ o1 false ⟨d1,false⟩ (by simp) (by simp[qQ]) (by simp[qS,TV.er,AV.er,nmB]) ?_
  cases hmm:d1.m with
  | none =>
   have hg:(g5 false d1).isSome=false:=by simp[g5,hmm]
   have h2:zKc d1=(d1,0,[]):=by
    unfold zKc
    simp only[hmm,zK6,zKT,q5,List.flatMap_nil,List.length_nil,Nat.lt_irrefl,if_false]
   rw[h2]at hopen
   simp (disch:=omega) [zz,hg,Tryz.f42]
   exact⟨_,HSub.refl _,zJW.good (by rw[hopen]) hJ1 hJ2 (by rw[hopen];rfl) (by rw[hopen])⟩
  | some f =>
   have hg:(g5 false d1).isSome=true:=by simp[g5,hmm]
   have hgf:g5 false d1=some f:=hmm
   rw[←tm,hmm]at hm
   simp only[szF]at hm
   have hsc:=zgl f.data hm
   obtain⟨l,hl⟩:∃l,l=zJc f.data:=⟨_,rfl⟩
   obtain⟨sl1,sl2,sl3⟩:=zM0 _ (b:=f.data) (Nat.le_refl _)
   rw[←hl]at hsc sl1 sl2 sl3
   have h2:zKc d1=if (q5 l).length<f.data.length then((zJn (f.data.take (q5 l).length) d1).1,(zJn (f.data.take (q5 l).length) d1).2,if (zJn (f.data.take (q5 l).length) d1).2=0 then l else []) else(d1,0,l):=by
    unfold zKc
    simp only[hmm,zK6,←hl]
   rw[h2]at hopen
   simp (disch:=omega) [zz,hg]
   refine qE (j4 B M o1 d1) [(J,jnO B false)] (by simp only[jH];exact List.perm_append_comm (l₁:=[_])) rfl (by simp[qQ]) (by simp) (R:=fun r H'=>r=.tup [(.str,.s f.data),(.int .i64,.i .i64 0)]∧H'=j4 B M o1 d1) ?_ ?_
   ·have:=zR8 B M hBM o1 false d1
    rw[hgf]at this
    rw[zLQ]
    simpa[TV.er,AV.er,zK6,nmB]using this
   rintro r' H' ⟨rfl,rfl⟩ _
   refine⟨jH J B M o1 ⟨d1,false⟩,HSub.of_perm (List.perm_append_comm (l₁:=j4 B M o1 d1) (l₂:=[(J,jnO B false)])),?_⟩
   simp (disch:=omega) [zz]
   refine zcv hsc ?_
   by_cases hlt:(q5 l).length<f.data.length
   ·rw[if_pos hlt]at hopen
    have hlt':((q5 l).length:Int)<f.data.length:=by omega
    have hle':((q5 l).length:Int)≤f.data.length:=by omega
    simp (disch:=omega) [zz,hlt',hle']
    refine zOe [] J B M hJ o1 d1 hd1 (f.data.take (q5 l).length) (by rw[tn,List.length_take];simp only[szF];omega) (by simp) (by simp[qQ]) (by simp[qS,TV.er,AV.er]) fun o2=>?_
    by_cases he:(zJn (f.data.take (q5 l).length) d1).2=0
    ·rw[if_pos he]at hopen
     simp (disch:=omega) [zz,he,Tryz.f42]
     exact⟨_,HSub.refl _,zJW.good (by rw[hopen];exact he) hJ1 hJ2 (by rw[hopen]) (by rw[hopen])⟩
    ·rw[if_neg he]at hopen
     simp (disch:=omega) [zz,he,Tryz.f42]
     exact⟨_,HSub.of_sub (List.sublist_cons_self _ _),zJW.bad (by rw[hopen];exact he) (by rw[hopen]) (by rw[hopen];exact zJN.of)⟩
   ·rw[if_neg hlt]at hopen
    have hlt':¬((q5 l).length:Int)<f.data.length:=by omega
    simp (disch:=omega) [zz,hlt',Tryz.f42]
    exact⟨_,HSub.refl _,zJW.good (by rw[hopen]) hJ1 hJ2 (by rw[hopen]) (by rw[hopen])⟩
 ·rw[if_neg ht]at hopen
  simp (disch:=omega) [zz,ht,Tryz.f42]
  exact⟨_,HSub.of_sub (List.sublist_cons_self _ _),zJW.bad (by rw[hopen];exact ht) (by rw[hopen]) (by rw[hopen];exact zJN.of)⟩
end Go.Proofs.YtcioeonlclpacaaGreatDoor
end
section
set_option maxRecDepth 100000
namespace Go.Proofs.YtcioeonlclpacaaGreatDoor
open Go Go.Ab
open Classical
variable [Sel]
@[simp] theorem zkV:qZ Tryz.prog 127=true:=by kernel_rfl
@[simp] theorem zr0:z8 Tryz.prog (.func 127)=false:=q9 zkV
@[simp] theorem zAm:qZ Tryz.prog 172=true:=by kernel_rfl
@[simp] theorem zAV:z8 Tryz.prog (.func 172)=false:=q9 zAm
@[simp] theorem zkQ:qZ Tryz.prog 128=true:=by kernel_rfl
@[simp] theorem zq1:z8 Tryz.prog (.func 128)=false:=q9 zkQ
end Go.Proofs.YtcioeonlclpacaaGreatDoor
end
section
set_option maxRecDepth 100000
namespace Go.Proofs.YtcioeonlclpacaaGreatDoor
open Go Go.Ab
open Classical
variable [Sel] [SelPow] [SelErr]
@[simp] theorem zoy:qZ Tryz.prog 63=true:=by kernel_rfl
@[simp] theorem zrF:z8 Tryz.prog (.func 63)=false:=q9 zoy
@[simp] theorem znB:qZ Tryz.prog 64=true:=by kernel_rfl
@[simp] theorem zsd:z8 Tryz.prog (.func 64)=false:=q9 znB
@[simp] theorem zo3:qZ Tryz.prog 54=true:=by kernel_rfl
@[simp] theorem zrg:z8 Tryz.prog (.func 54)=false:=q9 zo3
noncomputable def stB (B M:Nat) (l:BlL):q8:=stO B M l (szB l)
@[simp] theorem zOl (B M:Nat) (l:BlL):(stB B M l).er=stB B M l:=zSo B M l _
theorem zRC {d:Dig} {x:List UInt8} {l:BlL} (h:l.find? (fun p=>decide (p.1=d))=none):szB (l++[(d,x)])=szB l+x.length:=by simp[szB]
theorem zQe (s:List UInt8):s.length≤(zJf s).length:=by
 simp only[zJf,zyI,List.length_append,List.length_cons,blobW];omega
theorem zN7:∀l:BlL,szB l≤zLL l
 | []=>Nat.le_refl _
 | p::l=>by
  have ih:=zN7 l
  have h:=zQe p.2
  have e1:szB (p::l)=p.2.length+szB l:=rfl
  have e2:zLL (p::l)=wtB p.2+zLL l:=rfl
  unfold wtB at e2
  omega
set_option maxHeartbeats 4000000 in
theorem zNY (B M:Nat) (hBM:M≠B) (l:BlL) (hl:szB l≤1000000000000) (x:List UInt8) (hx:x.length≤1000000000) :
  q7 Tryz.prog 52 [.av .ptr (.ptr B zKp []),.av .str (.s x)] (stB B M l) fun r H'=>r=.av (qD Tryz.prog 46) (KW (sha x))∧H'=stB B M (zJm (sha x) x l):=by
 have hBM':¬B=M:=fun e=>hBM e.symm
 have hfd:=zLm (sha x) l
 refine zov Tryz.func52 zSH fun imm0 w0=>?_
 simp (disch:=omega) [zz]
 refine qL (znJ x (by omega)) rfl rfl (by simp) (by simp[qS,TV.er,AV.er,AV.ers,zfI]) ?_
 cases hf:l.find? (fun p=>decide (p.1=sha x))with
 | some p =>
  rw[hf]at hfd
  simp only[Option.map_some]at hfd
  have hpl:zJm (sha x) x l=l:=by simp only[zJm,hf]
  simp (disch:=omega) [zz,-List.reduceReplicate,stB,stO,hBM,hBM',hfd]
  (repeat with_reducible refine om ?_)
  simp (disch:=omega) [zz,-List.reduceReplicate,Tryz.f52,hpl]
 | none =>
  have hpt:=zNm (sha x) x l hf
  have hsz:=zRC (x:=x) hf
  rw[hf]at hfd
  simp only[Option.map_none]at hfd
  have hpl:zJm (sha x) x l=l++[(sha x,x)]:=by simp only[zJm,hf]
  simp (disch:=omega) [zz,-List.reduceReplicate,stB,stO,hBM,hBM',hfd,hpt]
  (repeat with_reducible refine om ?_)
  refine jW.of [0,1,2,3,4,5,6] [] (by kernel_rfl) ?_
  simp (disch:=omega) [zz,-List.reduceReplicate,stO,hBM,hBM',hfd,hpt]
  (repeat with_reducible refine om ?_)
  simp (disch:=omega) [zz,-List.reduceReplicate,Tryz.f52,hpl,hsz]
theorem zQa (B M:Nat) (l:BlL):q7 Tryz.prog 54 [.av .ptr (.ptr B zKp [])] (stB B M l) fun r H'=>r=.av (.int .i64) (.i .i64 (szB l))∧H'=stB B M l:=by
 refine zov Tryz.func54 cf0 fun imm0 w0=>?_
 simp (disch:=omega) [zz,stB,stO,Tryz.f54]
end Go.Proofs.YtcioeonlclpacaaGreatDoor
end
