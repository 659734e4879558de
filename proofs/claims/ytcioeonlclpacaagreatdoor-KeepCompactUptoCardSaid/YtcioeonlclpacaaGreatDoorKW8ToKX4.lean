/- What was kept is there: the law; the program. No condition beyond each theorem's own. -/
import Derived.Test.YtcioeonlclpacaaGreatDoorKB2ToKX3
import Derived.Test.YtcioeonlclpacaaGreatDoorKL3ToI1a
set_option linter.unusedSimpArgs false
set_option linter.unusedVariables false
set_option linter.unusedSectionVars false
section
set_option maxRecDepth 100000
namespace Go.Proofs.YtcioeonlclpacaaGreatDoor
open Go Go.Ab
open Classical
variable [Sel] [SelPow] [SelErr]
@[simp] theorem zpx:qZ Tryz.prog 3=true:=by kernel_rfl
@[simp] theorem zsY:z8 Tryz.prog (.func 3)=false:=q9 zpx
theorem zPY {n:Nat} (h:n<256):IntKind.u8.wrap (n:Int)=n:=by
 rw[znm,UInt8.toNat_ofNat'];omega
theorem zMg (l:List zJk) (k:Nat) (h:k<l.length):(l.map y3)[k]?=some (y3 l[k]):=by simp[List.getElem?_eq_getElem h]
theorem zP9 (o:zJk):zJt ⟨0,0,o,[]⟩=.agg [.i .i64 0,.i .i64 0,y3 o,.sl .no []]:=rfl
@[simp] theorem zps:qZ Tryz.prog 4=true:=by kernel_rfl
@[simp] theorem zt8:z8 Tryz.prog (.func 4)=false:=q9 zps
def zXc (o:zJk):Prop:=zLI o∧0≤o.key∧o.key<256
def zWV (o:zJk):zJk:=⟨o.key,o.reads,o.outs,0⟩
structure KdS where
 i:Nat
 B:Nat
 M:Nat
 K:Nat
 a:KA
 k:KV
 cs:List Cel
theorem zWS (K B M:Nat) (a:KA) (k:KV) (rest:q8):(kpH K B M a k++rest).Perm (j4 B M a.o k.j.d++(((a.J,jnO B k.j.br)::(K,kpO a)::(DbH a.D a.E k.mo a.cs++stB a.S a.T k.M.bl))++rest)):=by
 rw[←List.append_assoc]
 exact List.Perm.append_right rest (zOM K B M a k)
theorem zX8 (F:q8) (K B M:Nat) (a:KA) (k:KV) (rest:q8):(F++(kpH K B M a k++rest)).Perm (j4 B M a.o k.j.d++(((a.J,jnO B k.j.br)::(K,kpO a)::(DbH a.D a.E k.mo a.cs++stB a.S a.T k.M.bl))++(F++rest))) :=
 (List.perm_append_comm_assoc _ _ _).trans (zWS K B M a k (F++rest))
set_option maxHeartbeats 64000000 in
theorem zWr (l:List zJk) (hl0:l.length≤9223372036854775807) (ho:∀o∈l,zXc o) (b0 b1:Int) (hb0:0≤b0) (hb02:b0<256) (hb1:0≤b1) (hb12:b1<256) :
  PC Tryz.prog 4 [.av (.slice 29) (.sl .no (l.map y3)),.av (.arr 2 5) (.agg [.i .u8 b0,.i .u8 b1])] (.av .bool (.b true)):=by
 refine q7.sub (R:=fun r H'=>r=.av .bool (.b true)) ?_ (fun r H' hr _=>⟨[],HSub.of_sub (List.nil_sublist _),hr,rfl⟩)
 refine zov Tryz.func4 cf0 fun imm0 w0=>?_
 simp (disch:=omega) [zz]
 refine qL zN6 rfl rfl (by simp) (by simp[qS]) ?_
 by_cases h4:10<l.length
 ·have h4':(10:Int)<l.length:=by omega
  simp (disch:=omega) [zz,h4',h4,Tryz.f4]
 have h4':¬(10:Int)<l.length:=by omega
 obtain⟨n,hn⟩:∃n:Nat,(n:Int)=1+b0 % 8:=⟨(1+b0 % 8).toNat,by omega⟩
 have htm:b0.tmod 8=b0 % 8:=Int.tmod_eq_emod_of_nonneg hb0
 have hw:IntKind.i64.wrap (1+b0 % 8)=n:=by rw[i64_in (by omega) (by omega)];omega
 have hn1:1≤n:=by omega
 have hn8:n≤8:=by omega
 simp (disch:=omega) [zz,h4',htm,hw,←hn]
 refine qE [] [] (List.Perm.refl _) rfl (by simp[qQ]) (by simp) (R:=fun r H'=>∃B M,M≠B∧r=.av .ptr (.ptr B zJB [])∧H'=j4 B M false zJe) ?_ ?_
 ·simpa[q8.er_nil]using zNl
 rintro r' H' ⟨B,M,hMB,rfl,rfl⟩ _
 refine⟨_,HSub.refl _,?_⟩
 have h0:=zO5 (mo:=n) hn1 hn8
 have hS0:=zX3 hn1 hn8
 obtain⟨k0,hk0⟩:∃k0:KV,k0=⟨⟨zJe,false⟩,n,⟨[],[]⟩⟩:=⟨_,rfl⟩
 rw[←hk0]at h0 hS0
 simp (disch:=omega) [zz]
 refine zK5 B M hMB false zJe n 0 (by omega) zVO h0 [] (by simp) (by simp[qQ]) (by simp[qS,TV.er,AV.er]) fun K a hka hne=>?_
 simp (disch:=omega) [zz]
 refine qE [] (kpH K B M a k0) (List.Perm.refl _) rfl (by simp[qQ]) (by simp) (R:=fun r H'=>∃D E,r=.tup [(.ptr,.ptr D DbT []),(.int .i64,.i .i64 0)]∧H'=DbH D E n []) ?_ ?_
 ·simpa[TV.er,AV.er,q8.er_nil]using zR2 n hn1 hn8
 rintro r' H' ⟨D,E,rfl,rfl⟩ _
 refine⟨kpH K B M a k0++DbH D E n [],HSub.of_perm List.perm_append_comm,?_⟩
 simp (disch:=omega) [zz]
 refine AT.loop' (α:=KdS) (fun x=>St.of [(3,.loc 3 []),(5,.av (.int .i64) (.i .i64 n)),(6,.av .ptr (.ptr x.B zJB [])),(7,.av .ptr (.ptr x.K KpT [])),(9,.av .ptr (.ptr D DbT [])),(48,.av (.slice 29) (.sl .no (l.map y3))),(49,.av (.int .i64) (.i .i64 l.length)),(50,.av (.int .i64) (.i .i64 x.i))] [(3,(.arr 2 5,.agg [.i .u8 b0,.i .u8 b1]))] (fun _=>0) (kpH x.K x.B x.M x.a x.k++DbH D E n x.cs))
  (fun x=>x.i≤l.length∧zJL x.a x.k∧KNE x.K x.B x.M x.a∧(∀c∈x.cs,zLA c)∧DbS n (1000000*x.i) x.k (zJx x.cs)) (fun x=>l.length-x.i) ⟨0,B,M,K,a,k0,[]⟩ ?_ ?_ ?_
 ·apply Le.of<;>simp[qU,qG,qO,qH,qP,qK,qF,qI,qJ,qN,]<;>try omega
 ·exact⟨Nat.zero_le _,hka,hne,by simp,hS0⟩
 clear hS0 hka hk0 hne h0 hMB
 rintro⟨i,B,M,K,a,k,cs⟩ ⟨hi,hka,hne,hcs,hS⟩ KL hN hE
 simp only at hi hka hne hcs hS hN
 refine qM (cf:=cf0) laid mixed _ _ _ (by kernel_rfl) ?_
 by_cases hlt:i<l.length
 ·have hlt':(i:Int)<l.length:=by omega
  have hgo:=zMg l i hlt
  obtain⟨hox,hok1,hok2⟩:=ho _ (List.getElem_mem hlt)
  obtain⟨o,hoe⟩:∃o,o=l[i]:=⟨_,rfl⟩
  rw[←hoe]at hgo hox hok1 hok2
  have heI:y3 (zWV o)=.agg [.i .u8 o.key,qF o.reads,zU o.outs,.i .u8 0]:=rfl
  obtain⟨v,hv⟩:∃v,v=zWV o:=⟨_,rfl⟩
  have hvo:zLI v:=by rw[hv];exact⟨hox.1,hox.2⟩
  have hvk:v.key=o.key∧v.odd=0∧v.outs=o.outs∧v.reads=o.reads:=by rw[hv];exact⟨rfl,rfl,rfl,rfl⟩
  have hvz:=hvo.2
  have hvl:=zKn v.outs
  have hvd:∀f∈v.outs,f.data.length≤1000000000:=fun f hf=>by have:=zKh hf;omega
  have hve:∀f∈v.outs,f.path.length≤1000000000:=fun f hf=>by have:=zKh hf;omega
  have hvr:∀r∈v.reads,r.path.length≤1000000000:=fun r hr=>by have:=zNG hr;omega
  have hvrl:=zNa v.reads
  have h1k:=zom v (by omega) (by omega) (by omega) hvd hvk.2.1
  have hon:zML v=.tup [(TrT,qK (trO v)),(.slice 36,zU v.outs)]:=rfl
  have hck:=zLw (trO v) ⟨⟨by simp only[trO];omega,fun r hr=>by have:=hvr r hr;omega⟩,⟨by simp only[trO,List.length_map];omega,fun m hm=>by
   obtain⟨f,hf,rfl⟩:=List.mem_map.1 hm
   have:=hve f hf
   simp only[zJF];omega⟩⟩ hvr (fun m hm=>by
   obtain⟨f,hf,rfl⟩:=List.mem_map.1 hm
   exact hve f hf)
  have hgk:=zMI (zN5 v) (zNL hvo)
  simp only[zN5,List.map_cons,List.map_nil,zP9]at hgk
  rw[←hv]at heI
  have hvE:=zKP v
  rw[heI]at h1k hgk hvE
  obtain⟨t,ht⟩:∃t,t=trO v:=⟨_,rfl⟩
  rw[←ht]at hon hck
  simp (disch:=omega) [zz,hlt',hgo,y3]
  refine qL h1k rfl rfl (by simp[qQ]) (by simp[qS,TV.er,AV.er,AV.ers,zdW]) ?_
  simp (disch:=omega) [zz,hon]
  refine qL hck rfl rfl (by simp[qQ]) (by simp[qS,TV.er,AV.er]) ?_
  by_cases hc:zCW t=0
  rotate_left
  ·simp (disch:=omega) [zz,hc]
   refine hE _ _ (by simp) ?_
   simp (disch:=omega) [zz,Tryz.f4]
  simp (disch:=omega) [zz,hc]
  refine qL hgk rfl rfl (by simp[qQ]) (by simp[qS,TV.er,AV.er,AV.ers,zdW]) ?_
  cases hg:zKK [⟨0,0,v,[]⟩]with
  | true =>
   simp (disch:=omega) [zz]
   refine hE _ _ (by simp) ?_
   simp (disch:=omega) [zz,Tryz.f4]
  | false =>
  have hgz:=zM7 hg
  have hwt:=zOq (o:=v) hvo.1 hgz
  have hfit:=zQu hvo.1 (by rw[←ht];exact hc) hgz
  rw[←ht]at hwt hfit
  have hG1:TrG t:=hfit.g
  obtain⟨recs,hstd⟩:=hS.std
  have hI1:=hstd.inv
  obtain⟨hz,hS2⟩:=zWT hn1 hS hfit
  replace hS2:DbS n (1000000*(i+1)) (g6 t v.outs k).1 (zJj n (zJx cs) t):=by
   obtain⟨⟨r2,g1⟩,g2,g3,g4⟩:=hS2
   exact⟨⟨r2,g1.up (by omega)⟩,g2,g3,g4.up (by omega)⟩
  have hte:qK t=.agg [KW t.key,qF t.reads,qJ t.outs]:=rfl
  simp (disch:=omega) [zz]
  refine zKi K B M a k hka (DbH D E n cs) (List.Perm.refl _) (zM8 K B M a k (1000000*i) hka hI1 t hG1.W hG1.1 v.outs (by omega) hvd (by omega)) (by simp) (by simp[qQ]) (by simp[qS,TV.er,AV.er,zdW]) fun a2 hka2 hne2=>?_
  rw[hz]
  obtain⟨k2,hk2⟩:∃k2,k2=(g6 t v.outs k).1:=⟨_,rfl⟩
  rw[←hk2]at hka2 hS2 ⊢
  clear hS hI1 hstd hz hka hne hck hgk h1k
  simp (disch:=omega) [zz]
  refine zW8 t hG1.W.1 hc n hn1 hn8 D E cs hcs (kpH K B M a2 k2) List.perm_append_comm (by simp[qQ]) (by simp[qS,TV.er,AV.er]) fun cs2 hcs2 hab=>?_
  rw[←hab]at hS2
  have htmi:(i:Int).tmod 8=(i:Int) % 8:=Int.tmod_eq_emod_of_nonneg (by omega)
  simp (disch:=omega) [zz,htmi]
  refine⟨by omega,fun _=>?_,fun _=>?_⟩
  rotate_left
  ·refine hN _ ⟨i+1,B,M,K,a2,k2,cs2⟩ ?_ ⟨by simp only;omega,hka2,hne2,hcs2,hS2⟩ (by simp only;omega)
   apply Le.of<;>simp[qU,qG,qO,qH,qP,qK,qF,qI,qJ,qN,]<;>try omega
  obtain⟨recs2,hstd2⟩:=hS2.std
  obtain⟨hc1,hI3,k4,ho4,hS4⟩:=zVR hn1 hn8 (by omega) hS2 []
  have hkc:=zV1 K B M a2 k2 (1000000*(i+1)) hka2 hstd2.inv (by omega)
  refine zKi K B M a2 k2 hka2 (DbH D E n cs2) (List.Perm.refl _) hkc (by simp) (by simp[qQ]) (by simp[qS,TV.er,AV.er]) fun a3 hka3 hne3=>?_
  rw[hc1]
  obtain⟨k3,hk3⟩:∃k3,k3=(zUW k2).1:=⟨_,rfl⟩
  rw[←hk3]at hka3 hI3 ho4 ⊢
  have hIm:=hI3.m
  have hIn:=hI3.n
  have hD3:=hI3.of.crash []
  simp (disch:=omega) [zz]
  refine zVc B M hne3.MB a3.o k3.j.d hI3.ok ⟨by omega,by omega⟩ [] (by simp) _ (zWS K B M a3 k3 (DbH D E n cs2)) (by simp[qQ]) (by simp[qS,TV.er,AV.er,zJY]) fun B2 M2 o2 hMB2=>?_
  simp (disch:=omega) [zz]
  refine zVa B2 M2 hMB2 o2 (zJh [] k3.j.d) n (1000000*(i+1)) (by omega) hD3 ho4 _ (List.Perm.refl _) (by simp[qQ]) (by simp[qS,TV.er,AV.er]) fun K2 a4 hka4 hne4=>?_
  simp (disch:=omega) [zz]
  refine zVc B M hne3.MB a3.o k3.j.d hI3.ok ⟨by omega,by omega⟩ [] (by simp) _ (zX8 (kpH K2 B2 M2 a4 k4) K B M a3 k3 (DbH D E n cs2)) (by simp[qQ]) (by simp[qS,TV.er,AV.er,zJY]) fun B3 M3 o3 hMB3=>?_
  simp (disch:=omega) [zz]
  refine zVa B3 M3 hMB3 o3 (zJh [] k3.j.d) n (1000000*(i+1)) (by omega) hD3 ho4 _ (List.Perm.refl _) (by simp[qQ]) (by simp[qS,TV.er,AV.er]) fun K3aa a5 hka5 hne5=>?_
  simp (disch:=omega) [zz]
  refine hN _ ⟨i+1,B3,M3,K3aa,a5,k4,cs2⟩ ?_ ⟨by simp only;omega,hka5,hne5,hcs2,hS4⟩ (by simp only;omega)
  refine Le.ofP ?_ ?_ ?_ ?_ (HSub.of_sub (List.Sublist.append_left ((List.sublist_append_right _ _).trans (List.sublist_append_right _ _)) _))<;>simp[qU,qG]
 have hie:i=l.length:=by omega
 have hlt':¬(i:Int)<l.length:=by omega
 have hiv:=hS.inv
 have hkl:=zVv hiv
 obtain⟨recs,hstd⟩:=hS.std
 have hsk:=zWD hS
 have hsame:=hS.same
 have hkl2:=zVv hstd.inv.mem
 have hmo:=hstd.mo
 obtain⟨L,hL⟩:∃L,L=zJx cs:=⟨_,rfl⟩
 rw[←hL]at hiv hkl hsk hsame
 obtain⟨ks,hks⟩:∃ks,ks=zKJ (L.map Prod.fst):=⟨_,rfl⟩
 have hksl:ks.length≤1000000:=by rw[hks,(zKE _).1.length_eq,List.length_map];simp only at hkl;omega
 have hed:qO ks=.sl .no (ks.map KW):=rfl
 simp (disch:=omega) [zz,hlt']
 refine hE _ _ (by simp) ?_
 clear hE hN
 simp (disch:=omega) [zz]
 refine zVW n D E cs hcs L hL.symm (by simp only at hkl;omega) (fun p hp=>(hiv.tr p hp).1) (kpH K B M a k) List.perm_append_comm (by simp[qQ]) (by simp[qS,TV.er,AV.er]) ?_
 rw[←hks,hed]
 obtain⟨f,hf⟩:∃f:Dig→Nat,f=fun q=>(getD L q).length:=⟨_,rfl⟩
 have hf8:∀q,f q≤8:=fun q=>by rw[hf];exact Nat.le_trans (hiv.row q) hn8
 have hsum:∀i,((ks.take i).map f).sum≤8*i:=by
  intro i
  induction i with
  | zero=>simp
  | succ i ih =>
   by_cases hi:i<ks.length
   ·rw[List.take_succ_eq_append_getElem hi,List.map_append,List.sum_append]
    have:=hf8 ks[i]
    simp only[List.map_cons,List.map_nil,List.sum_cons,List.sum_nil]
    omega
   ·rw[List.take_of_length_le (by omega)]
    rw[List.take_of_length_le (by omega)]at ih
    omega
 simp (disch:=omega) [zz]
 refine AT.loop' (α:=Nat) (fun i=>St.of [(7,.av .ptr (.ptr K KpT [])),(9,.av .ptr (.ptr D DbT [])),(15,.av (.int .i64) (.i .i64 (((ks.take i).map f).sum:Nat))),(112,.av DgS (.sl .no (ks.map KW))),(113,.av (.int .i64) (.i .i64 ks.length)),(114,.av (.int .i64) (.i .i64 i))] [] (fun _=>0) (kpH K B M a k++DbH D E n cs))
  (fun i=>i≤ks.length) (fun i=>ks.length-i) 0 ?_ ?_ ?_
 ·apply Le.of<;>simp[qU,qG,qO,qH,qP,qK,qF,qI,qJ,qN,]<;>try omega
 ·simp
 rintro j hj KL hN hE
 refine qM (cf:=cf0) laid mixed _ _ _ (by kernel_rfl) ?_
 by_cases hlt2:j<ks.length
 ·have hlt2':(j:Int)<ks.length:=by omega
  have hgk:=zPi ks j hlt2
  have hts:((ks.take (j+1)).map f).sum=((ks.take j).map f).sum+f ks[j]:=by
   rw[List.take_succ_eq_append_getElem hlt2,List.map_append,List.sum_append];simp only[List.map_cons,List.map_nil,List.sum_cons,List.sum_nil,Nat.add_zero]
  have hs1:=hsum j
  have hs2:=hf8 ks[j]
  have hfl:f ks[j]=(getD L ks[j]).length:=by rw[hf]
  have hsq:=hsame ks[j]
  obtain⟨q,hq⟩:∃q,q=ks[j]:=⟨_,rfl⟩
  rw[←hq]at hgk hts hs2 hfl hsq
  have hof:=zNS q n D E cs hcs
  rw[←hL]at hof
  have het:qH (getD L q)=.sl .no (trs (getD L q)):=rfl
  have htl:(trs (getD L q)).length=f q:=by rw[zL1,hfl]
  have hkt:=zMa K B M a k hka q
  rw[hsq]at hkt
  have hktE:q7 Tryz.prog 18 [.av .ptr (.ptr K KpT []),.av (qD Tryz.prog 46) (KW q)] (q8.er (kpH K B M a k)) fun r H'=>r=.av (.slice 49) (qH (getD L q))∧H'=kpH K B M a k:=by
   rw[u4 hka];exact hkt
  have hok:=zVD hiv q
  have hsm:=zVF (getD L q) (getD L q) hok hok (by omega) (by omega)
  have hte:=zc2 (getD L q)
  obtain⟨S,hS'⟩:∃S,S=((ks.take j).map f).sum:=⟨_,rfl⟩
  rw[←hS']at hts hs1 ⊢
  have hqe:=zmb q
  obtain⟨Q,hQ⟩:∃Q,Q=KW q:=⟨_,rfl⟩
  rw[←hQ]at hgk hof hqe hktE
  have hofV:q7 Tryz.prog 26 [.av .ptr (.ptr D DbT []),.av (qD Tryz.prog 46) Q] (q8.er (DbH D E n cs)) fun r H'=>r=.av (.slice 49) (qH (getD L q))∧H'=DbH D E n cs:=hof
  obtain⟨ET,hET⟩:∃ET,ET=qH (getD L q):=⟨_,rfl⟩
  simp (disch:=omega) [zz,hlt2',hgk]
  refine qE (DbH D E n cs) (kpH K B M a k) List.perm_append_comm rfl (by simp[qQ]) (by simp) (R:=fun r H'=>r=.av (.slice 49) (qH (getD L q))∧H'=DbH D E n cs) ?_ ?_
  ·exact q7.args hofV (by simp[qS,TV.er,AV.er,hqe])
  rintro r' H' ⟨rfl,rfl⟩ _
  refine⟨kpH K B M a k++DbH D E n cs,HSub.of_perm List.perm_append_comm,?_⟩
  rw[het]
  simp (disch:=omega) [zz,htl]
  (repeat with_reducible refine om ?_)
  refine UL (kpH K B M a k) (DbH D E n cs) (List.Perm.refl _) hktE rfl rfl (by simp) (by simp[qS,TV.er,AV.er,hqe]) ?_
  simp (disch:=omega) [zz]
  (repeat with_reducible refine om ?_)
  refine UL (DbH D E n cs) (kpH K B M a k) List.perm_append_comm hofV rfl rfl (by simp) (by simp[qS,TV.er,AV.er,hqe]) ?_
  simp (disch:=omega) [zz]
  (repeat with_reducible refine om ?_)
  refine jC hsm rfl rfl (by simp) (by simp[qS,TV.er,hte]) ?_
  have hts3:((List.take (j+1) (List.map f ks)).sum:Int)=(S:Int)+(f q:Int):=by rw[←List.map_take,hts];omega
  simp (disch:=omega) [zz]
  (repeat with_reducible refine om ?_)
  refine hN _ (j+1) ?_ (by omega) (by omega)
  apply Le.of<;>simp[qU,qG,qO,qH,qP,qK,qF,qI,qJ,qN,hts3]<;>try omega
 ·have hlt2':¬(j:Int)<ks.length:=by omega
  have htk:ks.take j=ks:=List.take_of_length_le (by omega)
  have hct:=zMQ K B M a k hka (by omega) (fun p hp=>(hstd.inv.mem.tr p hp).1) (fun q=>by have:=hstd.inv.mem.row q;omega)
  have hcs2:((zKJ (k.M.L.map Prod.fst)).map fun q=>(getD k.M.L q).length).sum=(ks.map f).sum:=by
   rw[hsk,←hks,hf]
   congr 1
   exact List.map_congr_left fun q _=>by rw[hsame]
  rw[hcs2]at hct
  rw[htk]
  simp (disch:=omega) [zz,hlt2']
  refine hE _ _ (by simp) ?_
  simp (disch:=omega) [zz]
  refine zJH K B M a k hka (DbH D E n cs) (List.Perm.refl _) hct (by simp) (by simp[qQ]) (by simp[qS,TV.er,AV.er]) ?_
  simp (disch:=omega) [zz,Tryz.f4]
end Go.Proofs.YtcioeonlclpacaaGreatDoor
end
