/- What was kept is there, however it crashes: plain. No condition beyond each theorem's own. -/
import Derived.Test.YtcioeonlclpacaaGreatDoorKE5ToKL2
import Derived.Test.YtcioeonlclpacaaGreatDoorKL4ToKW2
import Derived.Test.YtcioeonlclpacaaGreatDoorKE3ToKD2
import Derived.Test.YtcioeonlclpacaaGreatDoorE3To
set_option linter.unusedSimpArgs false
set_option linter.unusedVariables false
set_option linter.unusedSectionVars false
section
set_option maxRecDepth 100000
namespace Go.Proofs.YtcioeonlclpacaaGreatDoor
open Go Go.Ab
open Classical
variable [Sel] [SelPow] [SelErr]
abbrev ItV:=zaP × List U1
structure Sur (xs:List ItV) (c:Nat→Bool) (M:MV):Prop where
 yes:∀i (h:i<xs.length),c i=true→getD M.L xs[i].1.key=[xs[i].1]∧∀f∈xs[i].2,zJl (sha f.data) M.bl=true
 no:∀i (h:i<xs.length),c i=false→getD M.L xs[i].1.key=[]
 keys:∀q,getD M.L q≠[]→∃i,∃h:i<xs.length,q=xs[i].1.key
 met:∀d p,M.bl.find? (fun p=>decide (p.1=d))=some p→p.1=sha p.2∧∃x∈xs,∃f∈x.2,f.data=p.2
theorem Sur.eq {xs:List ItV} {c:Nat→Bool} {M M':MV} (h:Sur xs c M) (e:MEq M M'):Sur xs c M':=by
 refine⟨fun i hi hc=>?_,fun i hi hc=>?_,fun q hq=>?_,fun d p hp=>?_⟩
 ·rw[←e.g]
  obtain⟨h1,h2⟩:=h.yes i hi hc
  exact⟨h1,fun f hf=>by rw[←zNt e];exact h2 f hf⟩
 ·rw[←e.g];exact h.no i hi hc
 ·rw[←e.g]at hq;exact h.keys q hq
 ·rw[←e.f]at hp;exact h.met d p hp
theorem zQ3 {d e:Dig} {s:List UInt8} {bl:BlL} (h:zJl e bl=true):zJl e (zJm d s bl)=true:=by
 have h2:=h
 unfold zJl at h ⊢
 rw[zKg,if_pos h2];exact h
theorem Sur.put {xs:List ItV} {c:Nat→Bool} {M:MV} (h:Sur xs c M) {x:ItV} (hx:x∈xs) {f:U1} (hf:f∈x.2):Sur xs c ⟨M.L,zJm (sha f.data) f.data M.bl⟩:=by
 refine⟨fun i hi hc=>?_,h.no,h.keys,fun d p hp=>?_⟩
 ·obtain⟨h1,h2⟩:=h.yes i hi hc
  exact⟨h1,fun g hg=>zQ3 (h2 g hg)⟩
 ·simp only[zKg]at hp
  split at hp
  ·exact h.met d p hp
  ·split at hp
   ·cases hp;exact⟨rfl,x,hx,f,hf,rfl⟩
   ·cases hp
theorem Sur.puts {xs:List ItV} {c:Nat→Bool} {x:ItV} (hx:x∈xs):∀ {l:List U1} {M:MV},Sur xs c M→(∀f∈l,f∈x.2)→Sur xs c ⟨M.L,zJE l M.bl⟩
 | [],M,h,_=>h
 | f::l,M,h,hl=>by
  exact Sur.puts hx (l:=l) (M:=⟨M.L,zJm (sha f.data) f.data M.bl⟩) (h.put hx (hl f (by simp))) fun g hg=>hl g (List.mem_cons_of_mem _ hg)
theorem zSQ (t:zaP) (ts:List zaP):zJr 1 t ts=[t]:=by simp[zJr]
theorem Sur.add {xs:List ItV} {c:Nat→Bool} {M:MV} (h:Sur xs c M) (hk:(xs.map fun x=>x.1.key).Nodup) {i:Nat} (hi:i<xs.length) (hc:zCW xs[i].1=0) (hb:∀f∈xs[i].2,zJl (sha f.data) M.bl=true) :
  Sur xs (fun j=>decide (j=i)||c j) ⟨zJj 1 M.L xs[i].1,M.bl⟩:=by
 have hne:∀j (hj:j<xs.length),j≠i→xs[j].1.key≠xs[i].1.key:=by
  intro j hj hji e
  have h1:(xs.map fun x=>x.1.key)[j]'(by simpa using hj)=(xs.map fun x=>x.1.key)[i]'(by simpa using hi):=by simpa using e
  exact hji ((List.getElem_inj hk).1 h1)
 have hgi:∀q,getD (zJj 1 M.L xs[i].1) q=if q=xs[i].1.key then [xs[i].1] else getD M.L q:=by
  intro q
  rw[zKB,zMN]
  by_cases hq:q=xs[i].1.key
  ·rw[if_pos ⟨hq.symm,hc⟩,if_pos hq,zSQ]
  ·rw[if_neg (fun e=>hq e.1.symm),if_neg hq]
 refine⟨fun j hj hcj=>?_,fun j hj hcj=>?_,fun q hq=>?_,h.met⟩
 ·simp only[hgi]
  by_cases hji:j=i
  ·subst hji;exact⟨by simp,hb⟩
  ·rw[if_neg (hne j hj hji)]
   simp only[hji,decide_false,Bool.false_or]at hcj
   exact h.yes j hj hcj
 ·simp only[Bool.or_eq_false_iff,decide_eq_false_iff_not]at hcj
  simp only[hgi]
  rw[if_neg (hne j hj hcj.1)]
  exact h.no j hj hcj.2
 ·simp only[hgi]at hq
  split at hq
  ·rename_i e;exact⟨i,hi,e⟩
  ·exact h.keys q hq
theorem Sur.keep {xs:List ItV} {c:Nat→Bool} {M:MV} (h:Sur xs c M) (hk:(xs.map fun x=>x.1.key).Nodup) {i:Nat} (hi:i<xs.length) (hc:zCW xs[i].1=0) :
  Sur xs (fun j=>decide (j=i)||c j) ⟨zJj 1 M.L xs[i].1,zJE xs[i].2 M.bl⟩:=by
 have h1:=Sur.puts (List.getElem_mem hi) h (l:=xs[i].2) fun f hf=>hf
 exact h1.add hk hi hc fun f hf=>zMY hf
structure zPF (xs:List ItV):Prop where
 nd:(xs.map fun x=>x.1.key).Nodup
 fit:∀x∈xs,zOF x.1 x.2
def ltB (n:Nat) (j:Nat):Bool:=decide (j<n)
inductive S1 (xs:List ItV):Nat→Nat→Bool→KV→Prop
 | go (i:Nat) (k:KV) (recs:List (List UInt8)) (M:MV) (hm:k.mo=1) (hb:k.j.br=false) (hf:zJK k.j.d.m recs) (hs:zKY recs) (hl:j5 1 recs ⟨[],[]⟩=(M,0)) (he:MEq M k.M) (hS:Sur xs (ltB i) k.M):S1 xs i i false k
 | broken (i n:Nat) (k:KV) (recs:List (List UInt8)) (r:List UInt8) (M M':MV) (c:Nat→Bool) (hn:n<i) (hm:k.mo=1) (hb:k.j.br=true) (hf:zMG k.j.d.m recs r) (hs:zKY recs) (hr:r.length≤1048576)
   (hl:j5 1 recs ⟨[],[]⟩=(M,0)) (hl':j5 1 (recs++[r]) ⟨[],[]⟩=(M',0)) (hS:Sur xs (ltB n) M) (hS':Sur xs c M') (hc:c=ltB n∨c=ltB (n+1)):S1 xs i n true k
structure S2 (xs:List ItV) (i n:Nat) (c:Nat→Bool) (k:KV):Prop where
 mo:k.mo=1
 br:k.j.br=false
 left:k.j.d.left=-1
 file:∃recs,zJK k.j.d.m recs
 S:Sur xs c k.M
 lo:∀j,j<i→c j=true
 hi:∀j,i≤j→(j<n→c j=true)∧(n<j→c j=false)
def zJX (l:List (List UInt8)):Prop:=∀a∈l,∀b∈l,sha a=sha b→a=b
def wtX (l:List (List UInt8)):Nat:=(l.map fun s=>2*s.length+2).sum
theorem zLO (a b:List (List UInt8)):wtX (a++b)=wtX a+wtX b:=by simp[wtX]
theorem zKG (s:List UInt8) (l:List (List UInt8)):wtX (s::l)=(2*s.length+2)+wtX l:=by simp[wtX]
theorem zLN:wtX []=0:=rfl
theorem zLh:∀l:List (List UInt8),(WI l).length≤wtX l
 | []=>by simp[WI]
 | s::l=>by
  have ih:=zLh l
  have h2:=zDw s.length
  rw[zyI,zyP,zKG]
  simp only[List.length_append,List.length_cons]
  omega
theorem zMJ:∀l:List XF,(∀r∈l,r.sum.length=32)→wtX (l.flatMap zD8)≤2*szR l+68*l.length
 | [],_=>by simp[wtX]
 | r::l,h=>by
  have ih:=zMJ l fun x hx=>h x (by simp[hx])
  have hr:=h r (by simp)
  have e:(if r.is then r.sum else []).length≤32:=by split<;>simp_all
  rw[List.flatMap_cons,zLO]
  simp only[zD8,zKG,zLN,szR,List.map_cons,List.sum_cons,List.length_cons]at ih ⊢
  omega
theorem zMA:∀l:List U1,wtX ((l.map zJF).flatMap zDa)≤2*szO l+68*l.length
 | []=>by simp[wtX]
 | f::l=>by
  have ih:=zMA l
  have hs:=zKU f.data
  rw[List.map_cons,List.flatMap_cons,zLO]
  simp only[zDa,zJF,zKG,zLN,szO,List.map_cons,List.sum_cons,List.length_cons]at ih ⊢
  omega
theorem zP2:∀l:List XF,10*l.length≤szR l
 | []=>by simp
 | r::l=>by
  have ih:=zP2 l
  simp only[szR,List.map_cons,List.sum_cons,List.length_cons]at ih ⊢
  omega
theorem zKh:∀ {l:List U1} {f:U1},f∈l→f.data.length+f.path.length<szO l
 | g::l,f,h=>by
  rcases List.mem_cons.1 h with rfl|h
  ·simp only[szO,List.map_cons,List.sum_cons];omega
  ·have:=zKh h
   simp only[szO,List.map_cons,List.sum_cons]at this ⊢;omega
theorem zNG:∀ {l:List XF} {r:XF},r∈l→r.path.length<szR l
 | g::l,r,h=>by
  rcases List.mem_cons.1 h with rfl|h
  ·simp only[szR,List.map_cons,List.sum_cons];omega
  ·have:=zNG h
   simp only[szR,List.map_cons,List.sum_cons]at this ⊢;omega
theorem zN3 (n:Int):(kdI n).length=32:=by simp[kdI]
theorem zSF (o:zJk) (hr:∀r∈o.reads,r.sum.length=32):TrD (trO o) :=
 ⟨zN3 _,hr,fun m hm=>by
  obtain⟨f,_,rfl⟩:=List.mem_map.1 hm
  exact zKU _⟩
theorem zOY (s:List UInt8):(zJf s).length≤2*s.length+12:=by
 have:=zLh [blobW,s]
 simp only[zKG,zLN]at this
 have e:blobW.length=4:=rfl
 unfold zJf;omega
theorem zP4 {o:zJk} (hr:∀r∈o.reads,r.sum.length=32) (hs:szO o.outs+szR o.reads≤2500):(zJG (trO o)).length≤800000:=by
 have h1:=zLh [traceW,zL2 (trO o)]
 have h2:(zL2 (trO o)).length≤wtX (zCY (trO o)):=by unfold zL2;split<;>first|exact zLh _|simp
 have h3:wtX (zCY (trO o))=wtX [(trO o).key,Lib.itoa (trO o).reads.length]+wtX (o.reads.flatMap zD8)+wtX ((o.outs.map zJF).flatMap zDa):=by
  unfold zCY;rw[zLO,zLO];rfl
 have h4:=zMJ o.reads hr
 have h5:=zMA o.outs
 have h6:=zP2 o.reads
 have h7:=zKn o.outs
 have h8:(trO o).key.length=32:=zN3 _
 have h9:(Lib.itoa ((trO o).reads.length:Int)).length≤o.reads.length+1:=by rw[zyP];exact zDw _
 simp only[zKG,zLN]at h1 h3
 have e:traceW.length=5:=rfl
 unfold zJG
 omega
theorem zQu {o:zJk} (hr:∀r∈o.reads,r.sum.length=32) (hc:zCW (trO o)=0) (hs:szO o.outs+szR o.reads≤2500):zOF (trO o) o.outs :=
 ⟨⟨zSF o hr,hc⟩,rfl,fun f hf=>by
  have:=zOY f.data
  have:=zKh hf
  omega,by have:=zP4 hr hs;omega⟩
theorem zQZ:∀l:List U1,wtO l≤24*szO l+24*l.length
 | []=>by simp[wtO]
 | f::l=>by
  have ih:=zQZ l
  have:=zOY f.data
  simp only[wtO,wtB,szO,List.map_cons,List.sum_cons,List.length_cons]at ih this ⊢
  omega
theorem zOq {o:zJk} (hr:∀r∈o.reads,r.sum.length=32) (hs:szO o.outs+szR o.reads≤2500):wtO o.outs+wtT (trO o)≤1000000:=by
 have h1:=zP4 hr hs
 have h2:=zQZ o.outs
 have h3:=zKn o.outs
 unfold wtT
 omega
theorem zRW {mo:Nat} (h1:1≤mo) (h8:mo≤8) {d:DV} {l:List (List UInt8)} {M:MV} (h:Op d l (openJ d)) (hl:j5 mo l ⟨[],[]⟩=(M,0)):zJv mo d=((openJ d).1,some ⟨⟨(openJ d).1,false⟩,mo,M⟩,0):=by
 have e1:(openJ d).2.1=0:=by rw[h.e]
 have e2:(openJ d).2.2=l:=by rw[h.e]
 unfold zJv
 rw[if_neg (by omega),if_neg (by rw[e1];decide),e2]
 have e3:(Int.toNat mo)=mo:=by omega
 rw[e3,hl,if_neg (by simp)]
theorem zO5 {mo:Nat} (h1:1≤mo) (h8:mo≤8):zJv mo zJe=(zJe,some ⟨⟨zJe,false⟩,mo,⟨[],[]⟩⟩,0):=by
 have e:openJ zJe=(zJe,0,[]):=by
  simp[openJ,zKc,W2,zJe,zK6,zKT,q5]
 unfold zJv
 rw[if_neg (by omega),e]
 simp[j5]
end Go.Proofs.YtcioeonlclpacaaGreatDoor
end
section
set_option maxRecDepth 100000
namespace Go.Proofs.YtcioeonlclpacaaGreatDoor
open Go Go.Ab
open Classical
variable [Sel] [SelPow] [SelErr]
end Go.Proofs.YtcioeonlclpacaaGreatDoor
end
section
set_option maxRecDepth 100000
namespace Go.Proofs.YtcioeonlclpacaaGreatDoor
open Go Go.Ab
open Classical
variable [Sel] [SelPow] [SelErr]
structure zJI (l:List (List UInt8)) (s:BlL):Prop where
 got:∀a∈l,s.find? (fun p=>decide (p.1=sha a))=some (sha a,a)
 is:∀p∈s,p.1=sha p.2∧p.2∈l
theorem zJI.nil:zJI [] []:=⟨by simp,by simp⟩
theorem zJI.apart {l:List (List UInt8)} {s:BlL} (h:zJI l s):zJX l:=fun a ha b hb e=>by
 have h1:=h.got a ha
 rw[e,h.got b hb]at h1
 cases h1;rfl
theorem zJI.old {l:List (List UInt8)} {s:BlL} (h:zJI l s) {x:List UInt8} (hx:s.find? (fun p=>decide (p.1=sha x))=some (sha x,x)):zJI (l++[x]) s :=
 ⟨fun a ha=>by
  rcases List.mem_append.1 ha with h1|h1
  ·exact h.got a h1
  ·rw[List.mem_singleton.1 h1];exact hx,fun p hp=>⟨(h.is p hp).1,List.mem_append_left _ (h.is p hp).2⟩⟩
theorem zJI.new {l:List (List UInt8)} {s:BlL} (h:zJI l s) {x:List UInt8} (hx:s.find? (fun p=>decide (p.1=sha x))=none):zJI (l++[x]) (s++[(sha x,x)]):=by
 refine⟨fun a ha=>?_,fun p hp=>?_⟩
 ·rw[List.find?_append]
  rcases List.mem_append.1 ha with h1|h1
  ·rw[h.got a h1];rfl
  ·rw[List.mem_singleton.1 h1,hx];simp
 ·rcases List.mem_append.1 hp with h1|h1
  ·exact⟨(h.is p h1).1,List.mem_append_left _ (h.is p h1).2⟩
  ·rw[List.mem_singleton.1 h1];exact⟨rfl,by simp⟩
theorem zJI.bad {l:List (List UInt8)} {s:BlL} (h:zJI l s) {x y:List UInt8} {m:List (List UInt8)} {d:Dig} (hx:s.find? (fun p=>decide (p.1=sha x))=some (d,y)) (hne:y≠x) (hl:∀a∈l,a∈m) (hm:x∈m):¬zJX m:=fun ha=>by
 obtain⟨h1,h2⟩:=zKz hx
 obtain⟨h3,h4⟩:=h.is _ h1
 simp only at h2 h3 h4
 exact hne (ha y (hl y h4) x hm (by rw[←h3,h2]))
theorem zOM (K B M:Nat) (a:KA) (k:KV):(kpH K B M a k).Perm (j4 B M a.o k.j.d++((a.J,jnO B k.j.br)::(K,kpO a)::(DbH a.D a.E k.mo a.cs++stB a.S a.T k.M.bl))):=by
 refine(zOR K B M a k).trans ?_
 unfold jH
 rw[List.cons_append]
 exact List.perm_middle.symm
theorem zKi {s:St} {dst:Option Nat} {X:St→Prop} {args bs:List TV} {f:Nat} {R0:TV} {k':KV} (K B M:Nat) (a:KA) (k:KV) (hk:zJL a k) (rest:q8) (hH:s.H.Perm (kpH K B M a k++rest))
  (hc:q7 Tryz.prog f bs (kpH K B M a k) fun r H'=>r=R0∧KpR K B M k' H') (hf:qZ Tryz.prog f=true) (ha:args.all qQ=true) (hx:qS (args.map TV.er) bs)
  (hX:∀a',zJL a' k'→KNE K B M a'→X (({ s with H:=kpH K B M a' k'++rest }:St).put dst R0)):ZP Tryz.prog s (.av .func (.fn f [])) args dst X:=by
 refine qE (kpH K B M a k) rest hH rfl ha hf (R:=fun r H'=>r=R0∧KpR K B M k' H') ?_ ?_
 ·rw[u4 hk]
  exact q7.args hc (by simpa using hx)
 rintro r' H' ⟨rfl,a',hk',rfl⟩ hnd
 refine⟨_,HSub.refl _,hX a' hk' (zOX (k:=k') ?_)⟩
 rw[q8.keys_app]at hnd
 exact(List.nodup_append.1 hnd).1
theorem zJH {s:St} {dst:Option Nat} {X:St→Prop} {args bs:List TV} {f:Nat} {R0:TV} (K B M:Nat) (a:KA) (k:KV) (hk:zJL a k) (rest:q8) (hH:s.H.Perm (kpH K B M a k++rest))
  (hc:q7 Tryz.prog f bs (kpH K B M a k) fun r H'=>r=R0∧H'=kpH K B M a k) (hf:qZ Tryz.prog f=true) (ha:args.all qQ=true) (hx:qS (args.map TV.er) bs)
  (hX:X (({ s with H:=s.H }:St).put dst R0)):ZP Tryz.prog s (.av .func (.fn f [])) args dst X:=by
 refine qE (kpH K B M a k) rest hH rfl ha hf (R:=fun r H'=>r=R0∧H'=kpH K B M a k) ?_ ?_
 ·rw[u4 hk]
  exact q7.args hc (by simpa using hx)
 rintro r' H' ⟨rfl,rfl⟩ _
 exact⟨s.H,HSub.of_perm hH.symm,hX⟩
theorem zK5 {s:St} {dst:Option Nat} {X:St→Prop} {args:List TV} {d':DV} {k:KV} (B M:Nat) (hBM:M≠B) (o:Bool) (d:DV) (mo:Int) (N:Nat) (hN:N≤1000000000) (hd:g8 N d) (ho:zJv mo d=(d',some k,0)) (rest:q8) (hH:s.H.Perm (j4 B M o d++rest))
  (ha:args.all qQ=true) (hx:qS (args.map TV.er) [.av .ptr (.ptr B zJB []),.av (.int .i64) (.i .i64 mo)])
  (hX:∀K a,zJL a k→KNE K B M a→X (({ s with H:=kpH K B M a k }:St).put dst (.tup [(.ptr,.ptr K KpT []),(.int .i64,.i .i64 0)]))):ZP Tryz.prog s (.av .func (.fn 12 [])) args dst X:=by
 refine qE (j4 B M o d) rest hH rfl ha (by simp) (R:=zKD B M (zJv mo d)) ?_ ?_
 ·rw[zKy]
  exact q7.args (zQH B M hBM o d mo N hN hd) (by simpa using hx)
 rw[ho]
 rintro r' H' (⟨h,_⟩|⟨k2,K,hk2,rfl,a,hka,rfl⟩) hnd
 ·cases h
 ·simp only[Option.some.injEq]at hk2
  subst hk2
  refine⟨_,HSub.of_sub (List.sublist_append_left _ _),hX K a hka (zOX (k:=k) ?_)⟩
  rw[q8.keys_app]at hnd
  exact(List.nodup_append.1 hnd).1
theorem zLD {s:St} {dst:Option Nat} {X:St→Prop} {args:List TV} (B M:Nat) (hBM:M≠B) (o:Bool) (d:DV) (hd:DOK d) (hz:szF d.m≤1000000000000∧szF d.n≤1000000000000) (ps:List Int) (hps:ps.length≤1000000000) (rest:q8) (hH:s.H.Perm (j4 B M o d++rest))
  (ha:args.all qQ=true) (hx:qS (args.map TV.er) [.av .ptr (.ptr B zJB []),.av (.slice 3) (zJY ps)])
  (hX:∀B2 M2 o2,M2≠B2→X (({ s with H:=j4 B2 M2 o2 (zJh ps d) }:St).put dst (.av .ptr (.ptr B2 zJB [])))):ZP Tryz.prog s (.av .func (.fn 17 [])) args dst X:=by
 refine qE (j4 B M o d) rest hH rfl ha (by simp) (R:=CrR B M o d (zJh ps d)) ?_ ?_
 ·rw[zKy]
  exact q7.args (zPk B M hBM o d hd hz ps hps) (by simpa using hx)
 rintro r' H' ⟨B2,M2,o2,h,rfl,rfl⟩ _
 refine⟨_,HSub.of_sub ?_,hX B2 M2 o2 h⟩
 rw[List.append_assoc]
 exact List.sublist_append_left _ _
theorem zJS.up {N N':Nat} {k:KV} (h:zJS N k) (hN:N≤N'):zJS N' k:=zJS.mk' (h.mem.up hN) (h.of.up hN) h.lo h.hi
theorem zVO:g8 0 zJe:=⟨zRq,Nat.le_refl _,Nat.le_refl _⟩
def zLI (o:zJk):Prop:=(∀r∈o.reads,r.sum.length=32)∧szO o.outs+szR o.reads≤100000000
def zN5 (o:zJk):List zNb:=[⟨0,0,o,[]⟩]
theorem zM7 {o:zJk} (h:zKK (zN5 o)=false):szO o.outs+szR o.reads≤2500:=by
 simp only[zKK,zN5,zKx,szA,List.map_cons,List.map_nil,List.sum_cons,List.sum_nil,Bool.or_eq_false_iff,decide_eq_false_iff_not]at h
 omega
theorem zNL {o:zJk} (h:zLI o):zKx (zN5 o)≤1000000000000000:=by
 have:=h.2
 simp only[zN5,zKx,szA,List.map_cons,List.map_nil,List.sum_cons,List.sum_nil,List.length_nil]
 omega
theorem zJX.mono {a b:List (List UInt8)} (h:zJX b) (hs:∀x∈a,x∈b):zJX a:=fun x hx y hy e=>h x (hs x hx) y (hs y hy) e
theorem Std.up {n N N':Nat} {k:KV} {recs:List (List UInt8)} (h:Std n N k recs) (hN:N≤N'):Std n N' k recs:={ h with inv:=h.inv.up hN }
theorem zW9 {n N:Nat} (h1:1≤n) (h8:n≤8) {k:KV} {recs:List (List UInt8)} (h:Std n N k recs) (ps:List Int) :
  ∃k',zJv n (zJh ps k.j.d)=(k'.j.d,some k',0)∧Std n N k' recs∧k'.j.d.left=-1∧∀q,getD k'.M.L q=getD k.M.L q:=by
 obtain⟨M,l1,l2⟩:=h.ld
 obtain⟨k',g1,g2,g3,g4⟩:=zVw h1 h8 h.inv.of h.small h.file l1 (h.all.eq l2.symm) ps
 exact⟨k',g1,g2,g4,fun q=>by rw[g3];exact l2.g q⟩
theorem zWj {n:Nat} (h1:1≤n) (h8:n≤8):Std n 0 ⟨⟨zJe,false⟩,n,⟨[],[]⟩⟩ [] :=
 ⟨rfl,((zMV (mo:=n) zVO).2 _ (by rw[zO5 h1 h8])).1,rfl,.inl ⟨rfl,rfl⟩,fun r hr=>(by cases hr),⟨_,rfl,MEq.refl _⟩,fun q t ht=>by simp[getD]at ht⟩
theorem zW7 {n N:Nat} {k:KV} {recs:List (List UInt8)} (h:Std n N k recs) {b:Int} (hb:b≤9223372036854775807):Std n N ⟨⟨zJs b k.j.d,k.j.br⟩,k.mo,k.M⟩ recs :=
 ⟨h.mo,zJS.mk' h.inv.mem (h.inv.of.budget hb) h.inv.lo h.inv.hi,h.br,h.file,h.small,h.ld,h.all⟩
theorem zWL {n N:Nat} {k:KV} {recs:List (List UInt8)} (h:Std n N k recs):zO2 (zSg k.M)=zO2 k.M:=zWn h.inv.mem.ok h.all
theorem zWp {n N:Nat} {k:KV} {recs:List (List UInt8)} (h:Std n N k recs) {q:Dig} {t:zaP} (ht:t∈getD k.M.L q) {m:Made} (hm:m∈t.outs) :
  ∃s,k.M.bl.find? (fun p=>decide (p.1=m.sum))=some (m.sum,s)∧sha s=m.sum∧s.length≤N:=by
 have h1:=h.all q t ht m hm
 unfold zJl at h1
 cases hf:k.M.bl.find? (fun p=>decide (p.1=m.sum))with
 | none=>rw[hf]at h1;cases h1
 | some p =>
  obtain⟨d,s⟩:=p
  obtain⟨h2,h3⟩:=zKz hf
  simp only at h3
  subst h3
  have h4:=zQ5 h2
  have h5:=zOL s
  have h6:=h.inv.mem.le
  refine⟨s,rfl,(h.inv.mem.sh _ h2).symm,?_⟩
  simp only[wtB]at h4
  omega
structure DbS (n N:Nat) (k:KV) (L:DbL):Prop where
 std:∃recs,Std n N k recs
 left:k.j.d.left=-1
 same:∀q,getD k.M.L q=getD L q
 inv:zJu n N ⟨L,[]⟩
theorem zX3 {n:Nat} (h1:1≤n) (h8:n≤8):DbS n 0 ⟨⟨zJe,false⟩,n,⟨[],[]⟩⟩ []:=⟨⟨[],zWj h1 h8⟩,rfl,fun _=>rfl,zJu.nil⟩
theorem zWT {n N:Nat} (h1:1≤n) {k:KV} {L:DbL} (h:DbS n N k L) {t:zaP} {outs:List U1} (hf:zOF t outs) :
  (g6 t outs k).2=0∧DbS n (N+(wtO outs+wtT t)) (g6 t outs k).1 (zJj n L t):=by
 obtain⟨recs,hs⟩:=h.std
 obtain⟨a1,a2,a3,a4⟩:=zW1 hs h.left hf
 refine⟨a1,⟨_,a2⟩,a3,fun q=>?_,(h.inv.add h1 hf.g).up (by omega)⟩
 rw[a4,zKB,zKB,h.same]
theorem zVR {n N:Nat} (h1:1≤n) (h8:n≤8) (hN:N<1000000000) {k:KV} {L:DbL} (h:DbS n N k L) (ps:List Int) :
  (zUW k).2=0∧zJS N (zUW k).1∧∃k',zJv n (zJh ps (zUW k).1.j.d)=(k'.j.d,some k',0)∧DbS n N k' L:=by
 obtain⟨recs,hs⟩:=h.std
 obtain⟨a1,a2,a3,a4,a5⟩:=zV0 hN hs h.left
 obtain⟨k',g1,g2,g3,g4⟩:=zW9 h1 h8 a5 ps
 refine⟨a1,a5.inv,k',g1,⟨_,g2⟩,g3,fun q=>?_,h.inv⟩
 rw[g4,a2]
 exact h.same q
theorem zWD {n N:Nat} {k:KV} {L:DbL} (h:DbS n N k L):zKJ (k.M.L.map Prod.fst)=zKJ (L.map Prod.fst):=by
 obtain⟨recs,hs⟩:=h.std
 exact zPA hs.inv.mem.ok h.inv.ok h.same
theorem zVv {n N:Nat} {x:MV} (h:zJu n N x):12*x.L.length≤N:=by
 have hb:∀L:DbL,(∀p∈L,p.2≠[])→12*L.length≤zN8 L:=by
  intro L
  induction L with
  | nil=>intro _;simp
  | cons p L ih =>
   intro hp
   have h1:=ih fun q hq=>hp q (List.mem_cons_of_mem _ hq)
   have h2:12≤zKH p.2:=by
    cases hc:p.2 with
    | nil=>exact absurd hc (hp p (by simp))
    | cons t r=>simp only[zKH,wtT,List.map_cons,List.sum_cons];omega
   simp only[zN8,List.map_cons,List.sum_cons,List.length_cons]at h1 ⊢
   omega
 have:=hb x.L fun p hp=>(h.ok.2 p hp).1
 have:=h.le
 omega
theorem zWJ {n N:Nat} {x:MV} (h:zJu n N x):12*x.bl.length≤N:=by
 have hb:∀l:BlL,12*l.length≤zLL l:=by
  intro l
  induction l with
  | nil=>simp
  | cons p l ih=>simp only[zLL,wtB,List.map_cons,List.sum_cons,List.length_cons]at ih ⊢;omega
 have:=hb x.bl
 have:=h.le
 omega
theorem zVD {n N:Nat} {x:MV} (h:zJu n N x) (q:Dig):∀t∈getD x.L q,zG2 t:=fun t ht=>(zVs h ht).1.W.ok
end Go.Proofs.YtcioeonlclpacaaGreatDoor
end
section
set_option maxRecDepth 100000
namespace Go.Proofs.YtcioeonlclpacaaGreatDoor
open Go Go.Ab
open Classical
variable [Sel]
@[simp] theorem zmi:qZ Tryz.prog 126=true:=by kernel_rfl
@[simp] theorem zpU:z8 Tryz.prog (.func 126)=false:=q9 zmi
@[simp] theorem zzN:qZ Tryz.prog 171=true:=by kernel_rfl
@[simp] theorem zAE:z8 Tryz.prog (.func 171)=false:=q9 zzN
theorem AT.absE {c:Ctx} {code:Code} {K:Exit→St→Prop} {s:St} (Q:(Nat→TV)→Prop) (h0:Q s.env) (h:∀E,Q E→AT c code K { s with env:=E }):AT c code K s:=h s.env h0
abbrev TsT:TyD:=.slice 49
noncomputable def bxO (l:List zaP):HObj:=.var TsT (.sl .no (trs l))
theorem zWK (l:List zaP):(bxO l).er=bxO l:=by simp[bxO,HObj.er_var,AV.erk]
abbrev zXd:Cfg:=⟨fun n=>n==1,fun _=>false⟩
theorem zVY (l:List zaP):q7 Tryz.prog 126 [.av TsT (.sl .no (trs l))] [] fun r H'=>∃c,r=.av .func (.fn 171 [.ptr c TsT []])∧H'=[(c,bxO l)]:=by
 refine zov Tryz.func126 zXd fun imm0 w0=>?_
 (simp (maxSteps:=2000000) (disch:=first|omega|assumption) [zz,-List.reduceReplicate])
 intro c
 (simp (maxSteps:=2000000) (disch:=first|omega|assumption) [zz,-List.reduceReplicate,Tryz.f126,bxO,AV.ers])
set_option maxHeartbeats 4000000 in
theorem zWI {G:Nat→q8→Prop} (y c:Nat) (l:List zaP) (hl:l.length≤1000000000) (hGe:∀k H,G k H→H.er=H)
  (hY:∀k (hk:k<l.length) H,G k H→YC Tryz.prog y [.av (.int .i64) (.i .i64 (l.length-1-k:Nat)),.av TrT (qK (l[l.length-1-k]'(by omega)))] H fun r H'=>r=.av .bool (.b true)∧G (k+1) H') :
  ∀H,G 0 H→q7 Tryz.prog 171 [.av .func (.yl y),.av .ptr (.ptr c TsT [])] ((c,bxO l)::H)
   fun r H'=>r=.tup []∧∃H1,G l.length H1∧H'=(c,bxO l)::H1:=by
 intro H hG
 have hbe:=zWK l
 have hsl:∀x:List zaP,(trs x).length=x.length:=fun x=>by simp[trs]
 refine zov Tryz.func171 cf0 fun imm0 w0=>?_
 (simp (maxSteps:=2000000) (disch:=first|omega|assumption) [zz,-List.reduceReplicate,bxO,hsl])
 refine AT.loop' (α:=Nat × q8) (fun p=>St.of [(0,.av .func (.yl y)),(1,.av .ptr (.ptr c TsT [])),(3,.av (.int .i64) (.i .i64 ((l.length:Int)-1-p.1)))] [] (fun _=>0) ((c,bxO l)::p.2))
  (fun p=>p.1≤l.length∧G p.1 p.2) (fun p=>l.length-p.1) (0,H) ?_ ?_ ?_
 ·apply Le.of<;>simp[qU,qG,bxO]<;>try omega
 ·exact⟨by omega,hG⟩
 rintro⟨k,H1⟩ ⟨hk,hG1⟩ KL hN hE
 simp only at hk hG1 hN
 refine qM (cf:=cf0) laid mixed _ _ _ (by kernel_rfl) ?_
 by_cases hlt:k<l.length
 ·obtain⟨i,hi⟩:∃i:Nat,i=l.length-1-k:=⟨_,rfl⟩
  have hii:(l.length:Int)-1-k=i:=by omega
  have hil:i<l.length:=by omega
  have hgi:(trs l)[i]?=some (qK l[i]):=by simp[trs,List.getElem?_eq_getElem hil]
  rw[hii]
  have hge:(0:Int)≤i:=by omega
  (simp (maxSteps:=2000000) (disch:=first|omega|assumption) [zz,-List.reduceReplicate,hge,bxO,hgi,hsl,hil])
  refine JY (R:=fun r H'=>r=.av .bool (.b true)∧G (k+1) H') H1 [(c,bxO l)] (List.perm_append_comm (l₁:=[_])) (by simp[qQ]) ?_ ?_
  ·rw[hGe _ _ hG1]
   have:=hY k hlt _ hG1
   simpa[TV.er,←hi]using this
  rintro r H2 ⟨rfl,hG2⟩ _
  refine⟨(c,bxO l)::H2,HSub.of_perm (List.perm_append_comm (l₂:=[_])),?_⟩
  (simp (maxSteps:=2000000) (disch:=first|omega|assumption) [zz,-List.reduceReplicate])
  refine hN _ (k+1,H2) ?_ ⟨by omega,hG2⟩ (by simp only;omega)
  apply Le.of<;>simp[qU,qG,bxO]<;>try omega
 ·have hge:(l.length:Int)-1-k=-1:=by omega
  rw[hge]
  (simp (maxSteps:=2000000) (disch:=first|omega|assumption) [zz,-List.reduceReplicate])
  refine hE _ _ (by simp) ?_
  have hkl:k=l.length:=by omega
  subst hkl
  have hH:=hGe _ _ hG1
  (simp (maxSteps:=2000000) (disch:=first|omega|assumption) [zz,-List.reduceReplicate,Tryz.f171,hH,hbe])
  exact⟨hG1,by first|rfl|simp[bxO]⟩
end Go.Proofs.YtcioeonlclpacaaGreatDoor
end
