/- What was kept is there: the law; the program. No condition beyond each theorem's own. -/
import Derived.Test.YtcioeonlclpacaaGreatDoorKW4ToKW7
set_option linter.unusedSimpArgs false
set_option linter.unusedVariables false
set_option linter.unusedSectionVars false
set_option maxRecDepth 100000
/-! What was kept is there: the law; the program. -/
namespace Go.Proofs.YtcioeonlclpacaaGreatDoor
open Go Go.Ab
open Classical
variable [Sel] [SelPow] [SelErr]

@[simp] theorem zpx:qZ Tryz.prog 3=true:=by kernel_rfl
@[simp] theorem zsY:z8 Tryz.prog (.func 3)=false:=q9 zpx
theorem zPY {n:Nat} (h:n<256):IntKind.u8.wrap (n:Int)=n:=by
 rw[znm,UInt8.toNat_ofNat'];omega
theorem zMg (l:List zJk) (k:Nat) (h:k<l.length):(l.map y3)[k]?=some (y3 l[k]):=by simp[List.getElem?_eq_getElem h]
theorem zSr:zLI zOE:=⟨by simp[zOE],by simp[zOE,szO,szR]⟩
theorem zOk {l:List zJk} (h:∀o∈l,zLI o):zLI (l.headD zOE):=by
 cases l with
 | nil=>exact zSr
 | cons o l=>exact h o (by simp)
theorem zP9 (o:zJk):zJt ⟨0,0,o,[]⟩=.agg [.i .i64 0,.i .i64 0,y3 o,.sl .no []]:=rfl
set_option maxHeartbeats 64000000 in
theorem zND (l:List zJk) (hl0:l.length≤9223372036854775807) (ho:∀o∈l,zLI o) (bu:Int) (hbu:0≤bu) (hbu2:bu<256) (ps:List Int) (hps0:ps.length≤9223372036854775807) :
  PC Tryz.prog 3 [.av (.slice 29) (.sl .no (l.map y3)),.av (.int .u8) (.i .u8 bu),.av (.slice 3) (zJY ps)] (.av .bool (.b true)):=by
 refine q7.sub (R:=fun r H'=>r=.av .bool (.b true)) ?_ (fun r H' hr _=>⟨[],HSub.of_sub (List.nil_sublist _),hr,rfl⟩)
 have hep:zJY ps=.sl .no (ps.map fun n=>.i .i64 n):=rfl
 refine zov Tryz.func3 cf0 fun imm0 w0=>?_
 simp (disch:=omega) [zz]
 refine qL zN6 rfl rfl (by simp) (by simp[qS]) ?_
 by_cases h4:4<l.length
 ·have h4':(4:Int)<l.length:=by omega
  simp (disch:=omega) [zz,h4',h4,Tryz.f3]
 have h4':¬(4:Int)<l.length:=by omega
 by_cases h20:20<ps.length
 ·have h20':(20:Int)<ps.length:=by omega
  simp (disch:=omega) [zz,h4',h20',hep,Tryz.f3]
 have h20':¬(20:Int)<ps.length:=by omega
 simp (disch:=omega) [zz,h4',h20',hep]
 refine qL (zPS l (by omega)) rfl rfl (by simp[qQ]) (by simp[qS,TV.er,AV.er,AV.ers_eq,zKP,Function.comp_def]) ?_
 have hfo:=zOk ho
 obtain⟨f0,hf0⟩:∃f0,f0=l.headD zOE:=⟨_,rfl⟩
 rw[←hf0]at hfo ⊢
 have hg0:=zMI (zN5 f0) (zNL hfo)
 have heo:=zKP f0
 simp only[zN5,List.map_cons,List.map_nil,zP9]at hg0
 obtain⟨ef,hef⟩:∃ef,ef=y3 f0:=⟨_,rfl⟩
 rw[←hef]at heo hg0 ⊢
 simp (disch:=omega) [zz]
 refine qL hg0 rfl rfl (by simp[qQ]) (by simp[qS,TV.er,AV.er,AV.ers,heo]) ?_
 cases hgr:zKK [⟨0,0,f0,[]⟩]with
 | true=>simp (disch:=omega) [zz,Tryz.f3]
 | false =>
 clear hg0 heo hgr
 have hlc:(l.length:Int)≤4:=by omega
 simp (disch:=omega) [zz]
 obtain⟨G,hG⟩:∃G:Nat→List (List UInt8),G=fun i=>zJR (l.take i):=⟨_,rfl⟩
 have hG0:G 0=[]:=by rw[hG];rfl
 have hGn:G l.length=zJR l:=by rw[hG];simp
 have hGs:∀i (h:i<l.length),G (i+1)=G i++zP8 l[i]:=fun i h=>by rw[hG];simp only[List.take_succ_eq_append_getElem h,zJR,List.flatMap_append,List.flatMap_cons,List.flatMap_nil,List.append_nil]
 have hGl:∀i,i≤l.length→(G i).length≤100000000*i:=by
  intro i
  induction i with
  | zero=>intro _;rw[hG0];simp
  | succ i ih =>
   intro h
   have h1:=hGs i (by omega)
   have h2:=ho _ (List.getElem_mem (show i<l.length by omega))
   have h3:=zKn (l[i]'(by omega)).outs
   have h4:=h2.2
   rw[h1,List.length_append,zP8,List.length_map]
   have:=ih (by omega)
   omega
 refine AT.loop' (α:=Nat) (fun i=>St.of [(0,.av (.slice 29) (.sl .no (l.map y3))),(1,.av (.int .u8) (.i .u8 bu)),(2,.av (.slice 3) (zJY ps)),(7,.av (.slice 9) (.sl (tkR 65 (G i).length) (zz6 (G i)))),(48,.av (.slice 29) (.sl .no (l.map y3))),(49,.av (.int .i64) (.i .i64 l.length)),(50,.av (.int .i64) (.i .i64 i))] [] (fun j=>if j=65 then(G i).length else 0) [])
  (fun i=>i≤l.length) (fun i=>l.length-i) 0 ?_ ?_ ?_
 ·apply Le.of<;>simp[qU,qG,qO,qH,qP,qK,qF,qI,qJ,qN,hG0,tkR,hep,zz6]<;>try omega
 ·simp
 rintro i hi KL hN hE
 refine qM (cf:=cf0) laid mixed _ _ _ (by kernel_rfl) ?_
 by_cases hlt:i<l.length
 ·have hlt':(i:Int)<l.length:=by omega
  have hgo:=zMg l i hlt
  have hgs:=hGs i hlt
  have hgl:=hGl i hi
  have hox:=ho _ (List.getElem_mem hlt)
  obtain⟨o,hoe⟩:∃o,o=l[i]:=⟨_,rfl⟩
  rw[←hoe]at hgo hgs hox
  have hoz:=hox.2
  have hol:=zKn o.outs
  obtain⟨g,hg⟩:∃g,g=G i:=⟨_,rfl⟩
  rw[←hg]at hgs hgl ⊢
  have hfe:zU o.outs=.sl .no (o.outs.map jZ):=rfl
  simp (disch:=omega) [zz,hlt',hgo,y3,hfe]
  obtain⟨Z,hZ⟩:∃Z:Nat→List (List UInt8),Z=fun j=>g++(o.outs.take j).map fun f=>f.data:=⟨_,rfl⟩
  have hZ0:Z 0=g:=by rw[hZ];simp
  have hZn:Z o.outs.length=G (i+1):=by rw[hZ,hgs];simp[zP8]
  have hZs:∀j (h:j<o.outs.length),Z (j+1)=Z j++[o.outs[j].data]:=fun j h=>by rw[hZ];simp only[List.take_succ_eq_append_getElem h,List.map_append,List.map_cons,List.map_nil,List.append_assoc]
  have hZl:∀j,j≤o.outs.length→(Z j).length≤1000000000:=fun j h=>by rw[hZ];simp only[List.length_append,List.length_map,List.length_take];omega
  refine AT.loop' (α:=Nat) (fun j=>St.of [(0,.av (.slice 29) (.sl .no (l.map y3))),(1,.av (.int .u8) (.i .u8 bu)),(2,.av (.slice 3) (zJY ps)),(7,.av (.slice 9) (.sl (tkR 65 (Z j).length) (zz6 (Z j)))),(48,.av (.slice 29) (.sl .no (l.map y3))),(49,.av (.int .i64) (.i .i64 l.length)),(50,.av (.int .i64) (.i .i64 i)),(55,.av (.slice 36) (.sl .no (o.outs.map jZ))),(56,.av (.int .i64) (.i .i64 o.outs.length)),(57,.av (.int .i64) (.i .i64 j))] [] (fun k=>if k=65 then(Z j).length else 0) [])
   (fun j=>j≤o.outs.length) (fun j=>o.outs.length-j) 0 ?_ ?_ ?_
  ·apply Le.of<;>simp[qU,qG,qO,qH,qP,qK,qF,qI,qJ,qN,hZ0]<;>try omega
  ·simp
  rintro j hj KL2 hN2 hE2
  refine qM (cf:=cf0) laid mixed _ _ _ (by kernel_rfl) ?_
  by_cases hlt2:j<o.outs.length
  ·have hlt2':(j:Int)<o.outs.length:=by omega
   have hgf:=zK1 o.outs j hlt2
   have hzs:=hZs j hlt2
   have hzl:=hZl j hj
   obtain⟨f,hf⟩:∃f,f=o.outs[j]:=⟨_,rfl⟩
   rw[←hf]at hgf hzs
   obtain⟨z,hz⟩:∃z,z=Z j:=⟨_,rfl⟩
   rw[←hz]at hzs hzl ⊢
   have hsz:zz6 (z++[f.data])=zz6 z++[.s f.data]:=by simp[zz6]
   have hlz:(z++[f.data]).length=z.length+1:=by simp
   cases hzn:z.length with
   | zero =>
    have hzz:z=[]:=List.length_eq_zero_iff.1 hzn
    subst hzz
    simp only[List.nil_append]at hzs
    simp (disch:=omega) [zz,hlt2',hgf,jZ,tkR,wB,zz6]
    (repeat with_reducible refine om ?_)
    refine hN2 _ (j+1) ?_ (by omega) (by omega)
    apply Le.of<;>simp[qU,qG,qO,qH,qP,qK,qF,qI,qJ,qN,tkR,hzs,zz6]<;>try omega
   | succ n =>
    have hlz2:(Z (j+1)).length=n+2:=by rw[hzs,hlz,hzn]
    simp (disch:=omega) [zz,hlt2',hgf,jZ,tkR,wB,hzn]
    (repeat with_reducible refine om ?_)
    refine hN2 _ (j+1) ?_ (by omega) (by omega)
    rw[hlz2,hzs,hsz]
    apply Le.of<;>simp[qU,qG,qO,qH,qP,qK,qF,qI,qJ,qN,tkR]<;>try omega
    all_goals (intro j;by_cases hj:j=65<;>simp[hj])
  ·have hje:j=o.outs.length:=by omega
   subst hje
   have hlt2':¬(o.outs.length:Int)<o.outs.length:=by omega
   rw[hZn]
   simp (disch:=omega) [zz,hlt2']
   refine hE2 _ _ (by simp) ?_
   simp (disch:=omega) [zz]
   refine hN _ (i+1) ?_ (by omega) (by omega)
   apply Le.of<;>simp[qU,qG,qO,qH,qP,qK,qF,qI,qJ,qN,]<;>try omega
 ·have hie:i=l.length:=by omega
  subst hie
  have hlt':¬(l.length:Int)<l.length:=by omega
  have hgl:=hGl l.length (Nat.le_refl _)
  rw[hGn]at hgl ⊢
  simp (disch:=omega) [zz,hlt']
  refine hE _ _ (by simp) ?_
  clear hE hN hGs hGl
  by_cases h300:300<(zJR l).length
  ·have h300':(300:Int)<(zJR l).length:=by omega
   simp (disch:=omega) [zz,h300',h300,Tryz.f3]
  have h300':¬(300:Int)<(zJR l).length:=by omega
  have htx:∀x∈zJR l,x.length≤1000000000:=by
   intro x hx
   obtain⟨o,hol,hx⟩:=List.mem_flatMap.1 hx
   obtain⟨f,hf,rfl⟩:=List.mem_map.1 hx
   have h1:=(ho o hol).2
   have h2:=zKh hf
   omega
  have hap:=zQj (zJR l) (by omega) htx
  have hers:=zGg (zJR l)
  obtain⟨T,hT⟩:∃T,T=zz6 (zJR l):=⟨_,rfl⟩
  have hTl:T.length=(zJR l).length:=by rw[hT,zAo]
  rw[←hT]at hap hers ⊢
  simp (disch:=omega) [zz,h300',hTl]
  refine qL hap rfl rfl (by simp[qQ]) (by simp[qS,TV.er,AV.er,hers]) ?_
  by_cases hA:zJX (zJR l)
  rotate_left
  ·have hai:apI (zJR l)=0:=if_neg hA
   simp (disch:=omega) [zz,hai,Tryz.f3]
  have hai:apI (zJR l)=1:=if_pos hA
  clear hap htx hT hTl hers h300 h300'
  simp (disch:=omega) [zz,hai]
  refine qE [] [] (List.Perm.refl _) rfl (by simp[qQ]) (by simp) (R:=fun r H'=>∃B M,M≠B∧r=.av .ptr (.ptr B zJB [])∧H'=j4 B M false zJe) ?_ ?_
  ·simpa[q8.er_nil]using zNl
  rintro r' H' ⟨B,M,hMB,rfl,rfl⟩ _
  refine⟨_,HSub.refl _,?_⟩
  simp (disch:=omega) [zz]
  have h0:zJv 1 zJe=(zJe,some ⟨⟨zJe,false⟩,1,⟨[],[]⟩⟩,0):=zO5 (mo:=1) (by omega) (by omega)
  refine zK5 B M hMB false zJe 1 0 (by omega) disk0 h0 [] (by simp) (by simp[qQ]) (by simp[qS,TV.er,AV.er]) fun K a hka hne=>?_
  simp (disch:=omega) [zz]
  refine qE (j4 B M a.o zJe) _ (zOM K B M a ⟨⟨zJe,false⟩,1,⟨[],[]⟩⟩) rfl (by simp[qQ]) (by simp) (R:=fun r H'=>r=.tup []∧H'=j4 B M a.o (zJs bu zJe)) ?_ ?_
  ·rw[zKy]
   exact q7.args (zOb B M hMB a.o zJe bu) (by simp[qS,TV.er,AV.er])
  rintro r' H' ⟨rfl,rfl⟩ _
  refine⟨kpH K B M a ⟨⟨zJs bu zJe,false⟩,1,⟨[],[]⟩⟩,HSub.of_perm (zOM K B M a ⟨⟨zJs bu zJe,false⟩,1,⟨[],[]⟩⟩).symm,?_⟩
  have hka0:zJL a ⟨⟨zJs bu zJe,false⟩,1,⟨[],[]⟩⟩:=⟨hka.cels,hka.abs⟩
  have hI0:zJS 0 ⟨⟨zJs bu zJe,false⟩,1,⟨[],[]⟩⟩:=zJS.mk' zJu.nil (disk0.budget (by omega)) (by simp) (by simp)
  obtain⟨n0,hn0,hfits,hfail⟩:=zOf (p:=zRE) l
  obtain⟨xs,hxs⟩:∃xs,xs=xsI (l.take n0):=⟨_,rfl⟩
  have hxl:xs.length=n0:=by rw[hxs,zLg,List.length_take];omega
  have hxg:∀i (h:i<n0),∃h2:i<xs.length,xs[i]=itI i (l[i]'(by omega)):=fun i h=>by
   subst hxs
   exact⟨by omega,by rw[zLi];simp⟩
  have hxok:zPF xs:=by
   rw[hxs]
   refine zSW (by rw[List.length_take];omega) (fun o h=>ho o (List.mem_of_mem_take h)) fun i h=>?_
   rw[List.length_take]at h
   rw[List.getElem_take]
   exact hfits i (by omega) (by omega)
  have hS0:=zR4 xs bu
  obtain⟨k0,hk0⟩:∃k0:KV,k0=⟨⟨zJs bu zJe,false⟩,1,⟨[],[]⟩⟩:=⟨_,rfl⟩
  rw[←hk0]at hka0 hI0 hS0 ⊢
  simp (disch:=omega) [zz]
  refine AT.loop' (α:=Nat × Nat × Bool × KA × KV) (fun x=>St.of [(0,.av (.slice 29) (.sl .no (l.map y3))),(2,.av (.slice 3) (zJY ps)),(12,.av .ptr (.ptr B zJB [])),(13,.av .ptr (.ptr K KpT [])),(15,.av (.int .i64) (.i .i64 x.2.1)),(16,.av .bool (.b x.2.2.1)),(88,.av (.slice 29) (.sl .no (l.map y3))),(89,.av (.int .i64) (.i .i64 l.length)),(90,.av (.int .i64) (.i .i64 x.1))] [] (fun j=>if j=65 then(zJR l).length else 0) (kpH K B M x.2.2.2.1 x.2.2.2.2))
   (fun x=>x.1≤n0∧zJL x.2.2.2.1 x.2.2.2.2∧KNE K B M x.2.2.2.1∧zJS (1000000*x.1) x.2.2.2.2∧S1 xs x.1 x.2.1 x.2.2.1 x.2.2.2.2) (fun x=>l.length-x.1) (0,0,false,a,k0) ?_ ?_ ?_
  ·apply Le.of<;>simp[qU,qG,qO,qH,qP,qK,qF,qI,qJ,qN,hep]<;>try omega
  ·exact⟨Nat.zero_le _,hka0,hne,hI0,hS0⟩
  clear hS0 hI0 hka0 hk0 hka hne h0
  have hfits2:=hfits
  rintro⟨i,n,b,a1,k1⟩ ⟨hi,hka1,hne1,hI1,hS1⟩ KL hN hE
  simp only at hi hka1 hne1 hI1 hS1 hN
  refine qM (cf:=cf0) laid mixed _ _ _ (by kernel_rfl) ?_
  by_cases hlt:i<l.length
  ·have hlt':(i:Int)<l.length:=by omega
   have hgo:=zMg l i hlt
   have hox:=ho _ (List.getElem_mem hlt)
   have hfi:n0=i→¬zRE i l[i]:=fun e=>by subst e;exact hfail hlt
   have hxi:=fun h=>(hxg i h)
   obtain⟨o,hoe⟩:∃o,o=l[i]:=⟨_,rfl⟩
   rw[←hoe]at hgo hox hfi
   have hu8:((i:Int))<256:=by omega
   have heI:y3 (zNA i o)=.agg [.i .u8 i,qF o.reads,zU o.outs,.i .u8 0]:=rfl
   obtain⟨v,hv⟩:∃v,v=zNA i o:=⟨_,rfl⟩
   have hvo:zLI v:=by rw[hv];exact⟨hox.1,hox.2⟩
   have hvk:v.key=i∧v.odd=0∧v.outs=o.outs∧v.reads=o.reads:=by rw[hv];exact⟨rfl,rfl,rfl,rfl⟩
   have hvz:=hvo.2
   have hvl:=zKn v.outs
   have hvd:∀f∈v.outs,f.data.length≤1000000000:=fun f hf=>by have:=zKh hf;omega
   have hve:∀f∈v.outs,f.path.length≤1000000000:=fun f hf=>by have:=zKh hf;omega
   have hvr:∀r∈v.reads,r.path.length≤1000000000:=fun r hr=>by have:=zNG hr;omega
   have hvrl:=zNa v.reads
   have h1k:=zom v (by omega) (by omega) (by omega) hvd hvk.2.1
   have hon:zML v=.tup [(TrT,qK (trO v)),(.slice 36,zU v.outs)]:=rfl
   have hck:=zLw (trO v) ⟨⟨by simp only[trO];omega,fun r hr=>by have:=hvr r hr;omega⟩,⟨by simp only[trO,List.length_map];omega,fun m hm=>by
    obtain⟨f,hf,rfl⟩:=List.mem_map.1 hm
    have:=hve f hf
    simp only[zJF];omega⟩⟩ hvr (fun m hm=>by
    obtain⟨f,hf,rfl⟩:=List.mem_map.1 hm
    exact hve f hf)
   have hgk:=zMI (zN5 v) (zNL hvo)
   simp only[zN5,List.map_cons,List.map_nil,zP9]at hgk
   rw[←hv]at heI
   have hvE:=zKP v
   simp only[zRE]at hfi
   rw[←hv]at hfi
   rw[heI]at h1k hgk hvE
   have hw8:IntKind.u8.wrap (i:Int)=i:=zPY (by omega)
   obtain⟨t,ht⟩:∃t,t=trO v:=⟨_,rfl⟩
   rw[←ht]at hon hck
   simp (disch:=omega) [zz,hlt',hgo,y3,hw8]
   refine qL h1k rfl rfl (by simp[qQ]) (by simp[qS,TV.er,AV.er,AV.ers,zdW]) ?_
   simp (disch:=omega) [zz,hon]
   refine qL hck rfl rfl (by simp[qQ]) (by simp[qS,TV.er,AV.er]) ?_
   by_cases hc:zCW t=0
   rotate_left
   ·simp (disch:=omega) [zz,hc]
    refine hE _ _ (by simp) ?_
    simp (disch:=omega) [zz,Tryz.f3]
   simp (disch:=omega) [zz,hc]
   refine qL hgk rfl rfl (by simp[qQ]) (by simp[qS,TV.er,AV.er,AV.ers,zdW]) ?_
   cases hg:zKK [⟨0,0,v,[]⟩]with
   | true =>
    simp (disch:=omega) [zz]
    refine hE _ _ (by simp) ?_
    simp (disch:=omega) [zz,Tryz.f3]
   | false =>
   have hin:i<n0:=by
    rcases Nat.lt_or_ge i n0 with h|h
    ·exact h
    ·exact absurd ⟨by rw[←ht];exact hc,hg⟩ (hfi (by omega))
   obtain⟨hix,hxe⟩:=hxi hin
   have hxe2:xs[i]=(t,v.outs):=by rw[hxe,ht,hv,hoe];rfl
   have hstep:=zRj hxok hS1 hix
   rw[hxe2]at hstep
   have hfit:=hxok.fit _ (List.getElem_mem hix)
   rw[hxe2]at hfit
   have hG1:TrG t:=hfit.g
   have hgz:=zM7 hg
   have hwt:=zOq (o:=v) hvo.1 hgz
   rw[←ht]at hwt
   have hI2:zJS (1000000*(i+1)) (g6 t v.outs k1).1:=(zLx hI1 hG1.1 v.outs).1.up (by omega)
   simp (disch:=omega) [zz]
   refine zKi K B M a1 k1 hka1 [] (by simp) (zM8 K B M a1 k1 (1000000*i) hka1 hI1 t hG1.W hG1.1 v.outs (by omega) hvd (by omega)) (by simp) (by simp[qQ]) (by simp[qS,TV.er,AV.er,zdW]) fun a2 hka2 hne2=>?_
   obtain⟨k2,hk2⟩:∃k2,k2=(g6 t v.outs k1).1:=⟨_,rfl⟩
   rw[←hk2]at hka2 hI2 hstep ⊢
   rcases hstep with⟨rfl,hz,hS2⟩|⟨hz,hS2⟩
   ·simp (disch:=omega) [zz,hz]
    refine hN _ (i+1,i+1,false,a2,k2) ?_ ⟨by simp only;omega,hka2,hne2,hI2,hS2⟩ (by simp only;omega)
    apply Le.of<;>simp[qU,qG,qO,qH,qP,qK,qF,qI,qJ,qN,]<;>try omega
   ·simp (disch:=omega) [zz,hz]
    refine hN _ (i+1,n,true,a2,k2) ?_ ⟨by simp only;omega,hka2,hne2,hI2,hS2⟩ (by simp only;omega)
    apply Le.of<;>simp[qU,qG,qO,qH,qP,qK,qF,qI,qJ,qN,]<;>try omega
  ·have hie:i=l.length:=by omega
   have hne0:n0=l.length:=by omega
   have hlt':¬(i:Int)<l.length:=by omega
   simp (disch:=omega) [zz,hlt']
   refine hE _ _ (by simp) ?_
   clear hE hN hfits hfail
   simp (disch:=omega) [zz]
   have hIm:=hI1.m
   have hIn:=hI1.n
   refine zLD B M hMB a1.o k1.j.d hI1.ok ⟨by omega,by omega⟩ ps (by omega) _ (zOM K B M a1 k1) (by simp[qQ]) (by simp[qS,TV.er,AV.er,zQk]) fun B2 M2 o2 hMB2=>?_
   obtain⟨d2,k2,c2,ho2,hS2⟩:=zSa hS1 ps
   have hD2:=hI1.of.crash ps
   have hI2:=((zMV (mo:=1) hD2).2 k2 (by rw[ho2])).1
   simp (disch:=omega) [zz]
   refine zK5 B2 M2 hMB2 o2 (zJh ps k1.j.d) 1 (1000000*i) (by omega) hD2 ho2 [] (by simp) (by simp[qQ]) (by simp[qS,TV.er,AV.er]) fun K2 a2 hka2 hne2=>?_
   have hap2:zJX (xs.flatMap fun x=>x.2.map fun f=>f.data):=by rw[hxs];exact zPW hA
   clear hI1 hS1 hka1 hne1 hD2 ho2
   simp (disch:=omega) [zz]
   refine AT.loop' (α:=Nat × (Nat→Bool) × KA × KV) (fun x=>St.of [(0,.av (.slice 29) (.sl .no (l.map y3))),(15,.av (.int .i64) (.i .i64 n)),(22,.av .ptr (.ptr K2 KpT [])),(132,.av (.slice 29) (.sl .no (l.map y3))),(133,.av (.int .i64) (.i .i64 l.length)),(134,.av (.int .i64) (.i .i64 x.1))] [] (fun j=>if j=65 then(zJR l).length else 0) (kpH K2 B2 M2 x.2.2.1 x.2.2.2))
    (fun x=>x.1≤l.length∧zJL x.2.2.1 x.2.2.2∧KNE K2 B2 M2 x.2.2.1∧zJS (1000000*(l.length+x.1)) x.2.2.2∧S2 xs x.1 n x.2.1 x.2.2.2) (fun x=>l.length-x.1) (0,c2,a2,k2) ?_ ?_ ?_
   ·apply Le.of<;>simp[qU,qG,qO,qH,qP,qK,qF,qI,qJ,qN,]<;>try omega
   ·exact⟨Nat.zero_le _,hka2,hne2,hI2.up (by simp only;omega),hS2⟩
   clear hS2 hI2 hka2 hne2
   rintro⟨j,c,a3,k3⟩ ⟨hj,hka3,hne3,hI3,hS3⟩ KL2 hN2 hE2
   simp only at hj hka3 hne3 hI3 hS3 hN2
   refine qM (cf:=cf0) laid mixed _ _ _ (by kernel_rfl) ?_
   by_cases hlt2:j<l.length
   ·have hlt2':(j:Int)<l.length:=by omega
    have hgo:=zMg l j hlt2
    have hox:=ho _ (List.getElem_mem hlt2)
    obtain⟨hjx,hxe⟩:=hxg j (by omega)
    have hfit:=hxok.fit _ (List.getElem_mem hjx)
    have hsee:=zSy hS3 hjx
    have hstep:=zRF hxok hS3 hjx
    have hmem:=List.getElem_mem hjx
    have hfin:=hfits2 j hlt2
    obtain⟨o,hoe⟩:∃o,o=l[j]:=⟨_,rfl⟩
    rw[←hoe]at hgo hox hfin
    have heI:y3 (zNA j o)=.agg [.i .u8 j,qF o.reads,zU o.outs,.i .u8 0]:=rfl
    obtain⟨v,hv⟩:∃v,v=zNA j o:=⟨_,rfl⟩
    have hvo:zLI v:=by rw[hv];exact⟨hox.1,hox.2⟩
    have hvk:v.key=j∧v.odd=0∧v.outs=o.outs∧v.reads=o.reads:=by rw[hv];exact⟨rfl,rfl,rfl,rfl⟩
    have hvz:=hvo.2
    have hvl:=zKn v.outs
    have hvrl:=zNa v.reads
    have hvd:∀f∈v.outs,f.data.length≤1000000000:=fun f hf=>by have:=zKh hf;omega
    have h1k:=zom v (by omega) (by omega) (by omega) hvd hvk.2.1
    have hon:zML v=.tup [(TrT,qK (trO v)),(.slice 36,zU v.outs)]:=rfl
    obtain⟨t,ht⟩:∃t,t=trO v:=⟨_,rfl⟩
    have hxe2:xs[j]=(t,v.outs):=by rw[hxe,ht,hv,hoe];rfl
    rw[←ht]at hon
    rw[hxe2]at hfit hsee hstep hmem
    rw[←hv]at heI
    rw[heI]at h1k
    simp only at hsee
    have hG1:TrG t:=hfit.g
    have hw8:IntKind.u8.wrap (j:Int)=j:=zPY (by omega)
    have hte:qK t=.agg [KW t.key,qF t.reads,qJ t.outs]:=rfl
    simp (disch:=omega) [zz,hlt2',hgo,y3,hw8]
    refine qL h1k rfl rfl (by simp[qQ]) (by simp[qS,TV.er,AV.er,AV.ers,zdW]) ?_
    simp (disch:=omega) [zz,hon,hte]
    refine zJH K2 B2 M2 a3 k3 hka3 [] (by simp) (zMa K2 B2 M2 a3 k3 hka3 t.key) (by simp) (by simp[qQ]) (by simp[qS,TV.er,AV.er]) ?_
    have hts:qH [t]=.sl .no [qK t]:=rfl
    have hts0:qH []=.sl .no []:=rfl
    have hsame:=zQ6 t t (hG1.W.ok) (hG1.W.ok)
    have hsv:zDY t t=true:=zFc.2 rfl
    rw[hsv]at hsame
    have hth:=zMH K2 B2 M2 a3 k3 hka3 hne3.TS v.outs (by omega) hvd
    have hthe:(∀f∈v.outs,zJl (sha f.data) k3.M.bl=true)→zKM v.outs k3.M.bl=true:=fun h=>zMB hS3.S hap2 hmem h
    have hgz:=zM7 (o:=v) (by rw[hv];exact(hfin (by omega)).2)
    have hwt:=zOq (o:=v) hvo.1 hgz
    rw[←ht]at hwt
    simp only at hstep
    have hkk:=zM8 K2 B2 M2 a3 k3 (1000000*(l.length+j)) hka3 hI3 t hG1.W hG1.1 v.outs (by omega) hvd (by omega)
    have hI4:zJS (1000000*(l.length+(j+1))) (g6 t v.outs k3).1:=(zLx hI3 hG1.1 v.outs).1.up (by omega)
    rw[hstep.1]at hkk
    have hS4:=hstep.2
    obtain⟨k4,hk4⟩:∃k4,k4=(g6 t v.outs k3).1:=⟨_,rfl⟩
    rw[←hk4]at hkk hI4 hS4
    have hth4:∀a4,zJL a4 k4→KNE K2 B2 M2 a4→q7 Tryz.prog 20 [.av .ptr (.ptr K2 KpT []),.av (.slice 36) (zU v.outs)] (kpH K2 B2 M2 a4 k4) fun r H'=>r=.av .bool (.b true)∧H'=kpH K2 B2 M2 a4 k4:=by
     intro a4 h1 h2
     have h3:=zMH K2 B2 M2 a4 k4 h1 h2.TS v.outs (by omega) hvd
     have h4:=(hS4.S.yes j hjx (hS4.lo j (by omega))).2
     rw[hxe2]at h4
     rw[zMB hS4.S hap2 hmem h4]at h3
     exact h3
    clear hstep hfin hxe heI h1k hon hw8 hox hoe
    rcases hsee.2.2 with⟨hg1,hg2⟩|hg1
    ·have hjn:¬n<j:=fun h=>by have:=hsee.2.1 h;rw[hg1]at this;cases this
     have hjn':¬(n:Int)<j:=by omega
     rw[hthe hg2]at hth
     have hthE:q7 Tryz.prog 20 [.av .ptr (.ptr K2 KpT []),.av (.slice 36) (zU v.outs)] (q8.er (kpH K2 B2 M2 a3 k3)) fun r H'=>r=.av .bool (.b true)∧H'=kpH K2 B2 M2 a3 k3:=by
      rw[u4 hka3];exact hth
     rw[hg1,hts]
     by_cases hlt3:j<n
     ·have hlt3':(j:Int)<n:=by omega
      simp (disch:=omega) [zz,hlt3',hjn']
      (repeat with_reducible refine om ?_)
      refine jC hsame rfl rfl (by simp) (by simp[qS,TV.er,AV.er,AV.ers,hte]) ?_
      simp (disch:=omega) [zz,hlt3',hjn']
      (repeat with_reducible refine om ?_)
      refine UL (kpH K2 B2 M2 a3 k3) [] (by simp) hthE rfl rfl (by simp) (by simp[qS,TV.er,AV.er,zdW]) ?_
      simp (disch:=omega) [zz,hlt3',hjn']
      (repeat with_reducible refine om ?_)
      refine zKi K2 B2 M2 a3 k3 hka3 [] (by simp) hkk (by simp) (by simp[qQ]) (by simp[qS,TV.er,AV.er,AV.ers,hte,zdW]) fun a4 hka4 hne4=>?_
      simp (disch:=omega) [zz]
      refine zJH K2 B2 M2 a4 k4 hka4 [] (by simp) (hth4 a4 hka4 hne4) (by simp) (by simp[qQ]) (by simp[qS,TV.er,AV.er,zdW]) ?_
      simp (disch:=omega) [zz]
      refine hN2 _ (j+1,(fun m=>decide (m=j)||c m),a4,k4) ?_ ⟨by simp only;omega,hka4,hne4,hI4,hS4⟩ (by simp only;omega)
      apply Le.of<;>simp[qU,qG,qO,qH,qP,qK,qF,qI,qJ,qN,]<;>try omega
     ·have hlt3':¬(j:Int)<n:=by omega
      simp (disch:=omega) [zz,hlt3',hjn']
      (repeat with_reducible refine om ?_)
      refine UL (kpH K2 B2 M2 a3 k3) [] (by simp) hthE rfl rfl (by simp) (by simp[qS,TV.er,AV.er,zdW]) ?_
      simp (disch:=omega) [zz,hlt3',hjn']
      (repeat with_reducible refine om ?_)
      refine zKi K2 B2 M2 a3 k3 hka3 [] (by simp) hkk (by simp) (by simp[qQ]) (by simp[qS,TV.er,AV.er,AV.ers,hte,zdW]) fun a4 hka4 hne4=>?_
      simp (disch:=omega) [zz]
      refine zJH K2 B2 M2 a4 k4 hka4 [] (by simp) (hth4 a4 hka4 hne4) (by simp) (by simp[qQ]) (by simp[qS,TV.er,AV.er,zdW]) ?_
      simp (disch:=omega) [zz]
      refine hN2 _ (j+1,(fun m=>decide (m=j)||c m),a4,k4) ?_ ⟨by simp only;omega,hka4,hne4,hI4,hS4⟩ (by simp only;omega)
      apply Le.of<;>simp[qU,qG,qO,qH,qP,qK,qF,qI,qJ,qN,]<;>try omega
    ·have hjn:¬j<n:=fun h=>by have:=hsee.1 h;rw[hg1]at this;cases this
     have hjn':¬(j:Int)<n:=by omega
     rw[hg1,hts0]
     by_cases hlt3:n<j
     ·have hlt3':(n:Int)<j:=by omega
      simp (disch:=omega) [zz,hlt3',hjn']
      (repeat with_reducible refine om ?_)
      refine zKi K2 B2 M2 a3 k3 hka3 [] (by simp) hkk (by simp) (by simp[qQ]) (by simp[qS,TV.er,AV.er,AV.ers,hte,zdW]) fun a4 hka4 hne4=>?_
      simp (disch:=omega) [zz]
      refine zJH K2 B2 M2 a4 k4 hka4 [] (by simp) (hth4 a4 hka4 hne4) (by simp) (by simp[qQ]) (by simp[qS,TV.er,AV.er,zdW]) ?_
      simp (disch:=omega) [zz]
      refine hN2 _ (j+1,(fun m=>decide (m=j)||c m),a4,k4) ?_ ⟨by simp only;omega,hka4,hne4,hI4,hS4⟩ (by simp only;omega)
      apply Le.of<;>simp[qU,qG,qO,qH,qP,qK,qF,qI,qJ,qN,]<;>try omega
     ·have hlt3':¬(n:Int)<j:=by omega
      simp (disch:=omega) [zz,hlt3',hjn']
      (repeat with_reducible refine om ?_)
      refine zKi K2 B2 M2 a3 k3 hka3 [] (by simp) hkk (by simp) (by simp[qQ]) (by simp[qS,TV.er,AV.er,AV.ers,hte,zdW]) fun a4 hka4 hne4=>?_
      simp (disch:=omega) [zz]
      refine zJH K2 B2 M2 a4 k4 hka4 [] (by simp) (hth4 a4 hka4 hne4) (by simp) (by simp[qQ]) (by simp[qS,TV.er,AV.er,zdW]) ?_
      simp (disch:=omega) [zz]
      refine hN2 _ (j+1,(fun m=>decide (m=j)||c m),a4,k4) ?_ ⟨by simp only;omega,hka4,hne4,hI4,hS4⟩ (by simp only;omega)
      apply Le.of<;>simp[qU,qG,qO,qH,qP,qK,qF,qI,qJ,qN,]<;>try omega
   ·have hje:j=xs.length:=by omega
    have hlt2':¬(j:Int)<l.length:=by omega
    have hc:∀i,i<xs.length→c i=true:=fun i h=>hS3.lo i (by omega)
    have hm1:=hS3.mo
    have hct:=zMQ K2 B2 M2 a3 k3 hka3 (by rw[zRt hxok hI3.mem.ok hS3.S hc];omega) (fun p hp=>(hI3.mem.tr p hp).1) (fun q=>by have:=hI3.mem.row q;omega)
    rw[zPE hxok hI3.mem.ok hS3.S hc]at hct
    have hxl2:(xs.length:Int)=l.length:=by omega
    simp (disch:=omega) [zz,hlt2']
    refine hE2 _ _ (by simp) ?_
    simp (disch:=omega) [zz]
    refine zJH K2 B2 M2 a3 k3 hka3 [] (by simp) hct (by simp) (by simp[qQ]) (by simp[qS,TV.er,AV.er]) ?_
    simp (disch:=omega) [zz,hxl2,Tryz.f3]
end Go.Proofs.YtcioeonlclpacaaGreatDoor
