/- Whether any row of what is known is too much: it answers, whatever the sum comes to. No condition beyond each theorem's own. -/
import Derived.Test.YtooipdkilgpojaaGreatDoorBR0ToKK1
import Derived.Test.YtooipdkilgpojaaGreatDoorBT0
import Derived.Test.YtooipdkilgpojaaGreatDoorAL0ToBR1
import Derived.Test.YtooipdkilgpojaaGreatDoorAbSToSk
import Derived.Test.YtooipdkilgpojaaGreatDoorBE1aToFK2
set_option linter.unusedSimpArgs false
set_option linter.unusedVariables false
set_option linter.unusedSectionVars false
section
set_option maxRecDepth 100000
namespace Go.Proofs.YtooipdkilgpojaaGreatDoor
open Go Go.Ab
open Classical
variable [Sel] [SelPow] [SelMax]
theorem zE5 (l:List KnV) (hl:l.length≤1000000000000000):q7 Tryz.prog 8 [.av (.slice 57) (zL l)] [] fun r H'=>∃b,r=.av .bool (.b b)∧H'=[]:=by
 refine q7.of_vc laid mixed Tryz.func8 rfl cf0 (by kernel_rfl) (by simp[Tryz.ntmps8]) fun imm0 w0=>?_
 (simp (maxSteps:=2000000) (disch:=first|omega|assumption) [zz,-List.reduceReplicate,zL])
 refine AT.loop' (α:=Nat × Int) (fun k=>St.of [(6,.av (.slice 57) (zL l)),(7,.av (.int .i64) (.i .i64 l.length)),(8,.av (.int .i64) (.i .i64 k.1)),(3,.av (.int .i64) (.i .i64 k.2))] [] (fun _=>0) [])
  (fun k=>k.1≤l.length) (fun k=>l.length-k.1) (0,0) ?_ ?_ ?_
 ·refine Le.of ?_ ?_ ?_ ?_ ?_<;>simp[qU,qG,zL]<;>try omega
 ·simp
 rintro⟨k,m⟩ hk KL hN hE
 simp only at hk hN
 refine qM (cf:=cf0) laid mixed _ _ _ (by kernel_rfl) ?_
 by_cases hlt:k<l.length
 ·have hlt':(k:Int)<l.length:=by omega
  have hg:=pZ l k hlt
  (simp (maxSteps:=2000000) (disch:=first|omega|assumption) [zz,-List.reduceReplicate,hlt',hg,zH,zL])
  refine hN _ (k+1,IntKind.i64.wrap (m+IntKind.i64.wrap (IntKind.i64.wrap (l[k].path.length+l[k].data.length)+1))) ?_ (by simp only;omega) (by simp only;omega)
  refine Le.of ?_ ?_ ?_ ?_ ?_<;>simp[qU,qG,zL]<;>try omega
 ·have hlt':¬(k:Int)<l.length:=by omega
  (simp (maxSteps:=2000000) (disch:=first|omega|assumption) [zz,-List.reduceReplicate,hlt',zL])
  refine hE _ _ (by simp) ?_
  by_cases h5:5000<m
  ·(simp (maxSteps:=2000000) (disch:=first|omega|assumption) [zz,-List.reduceReplicate,h5,Tryz.f8])
  ·(simp (maxSteps:=2000000) (disch:=first|omega|assumption) [zz,-List.reduceReplicate,h5,Tryz.f8])
theorem zDx {N:Nat} (p:Txt) {known:List KnV} (h:∀k∈known,k.data.length≤N):(zCX known p).data.length≤N:=by
 have:∀(l:List KnV) (k:KnV),(∀k∈l,k.data.length≤N)→k.data.length≤N→(l.foldl (fun k x=>if x.path=p∧k.is=false then x else k) k).data.length≤N:=by
  intro l
  induction l with
  | nil=>exact fun k _ h=>h
  | cons x l ih =>
   intro k hl h
   rw[List.foldl_cons]
   refine ih _ (fun y hy=>hl y (by simp[hy])) ?_
   split
   ·exact hl x (by simp)
   ·exact h
 exact this known _ h (Nat.zero_le _)
structure BtI (env:List (Txt × Txt)) (cs:List CmdV) (lines:List Txt) (ks:List KnV) (R:Nat) (kn:List KnV) (wr:List DoV) (r:RunV) (H:q8):Prop where
 hH:z6 R r H
 g:wH r
 a:Q9 r
 at_:AtR env (C9 cs) kn wr r
 tr:TrT env lines ks kn wr
structure BtX where
 i:Nat
 kn:List KnV
 wr:List DoV
 r:RunV
 H:q8
 d:DoV
noncomputable def zDb (t:Txt) (env:List (Txt × Txt)) (ks:List KnV) (M:Nat) (more:List (Nat × TV)) (x:BtX) (locs:List (Nat × (TyD × AV)):=[]):St :=
 St.of ([(0,.av .str (.s t)),(1,.av (.slice 85) (zS env)),(2,.av (.slice 57) (zL ks)),(9,.av TxS (.sl (tkG 86 x.kn.length) (strs (x.kn.map (·.path))))),(10,.av WrT (.map (some M))),(11,.loc 11 [])]++more)
  ([(11,(DoT,jG x.d))]++locs) (fun j=>if j=86 then x.kn.length else 0) ((M,wrO (x.wr.map pdW))::x.H)
structure BtE (env:List (Txt × Txt)) (cs:List CmdV) (lines:List Txt) (ks:List KnV) (R:Nat) (x:BtX):Prop where
 I:BtI env cs lines ks R x.kn x.wr x.r x.H
 l1:x.kn.length≤1200
 l2:x.wr.length≤1200
 e:x.d.kind=1∨x.d.kind=2∨(x.d.kind≠1∧x.d.kind≠2∧JB env (C9 cs) x.kn x.wr x.r x.d)
def zEJ (d:DoV):Prop:=d.kind≠1
def zEI (kn:List KnV) (l:List (Txt × Txt)):Prop:=∀k∈kn,k.path∉l.map (·.1)
def zD0 (t:Txt) (env:List (Txt × Txt)) (L:List Txt):AV:=.agg [.agg [.s [],.s []],.s t,zS env,.sl .full [],.sl .full [.s [42,42]],.sl (tkG 127 L.length) (strs L)]
noncomputable def zCT (t:Txt) (env:List (Txt × Txt)) (ks:List KnV) (M:Nat) (kn:List KnV) (d:DoV) (L:List Txt) (o:HObj) (H:q8) (more:List (Nat × TV):=[]) (hm:q8:=[]) (locs:List (Nat × (TyD × AV)):=[]):St :=
 St.of ([(2,.av (.slice 57) (zL ks)),(9,.av TxS (.sl .no (strs (kn.map (·.path))))),(10,.av WrT (.map (some M))),(11,.loc 11 []),(17,.loc 17 [])]++more)
  ([(11,(DoT,jG d)),(17,(UI,zD0 t env L))]++locs) (fun j=>if j=86 then kn.length else if j=127 then L.length else 0) (hm++(M,o)::H)
abbrev zCZ:Cfg:=⟨fun n=>n==9||n==85,fun _=>false⟩
set_option maxHeartbeats 32000000 in
theorem zDF (t:Txt) (env:List (Txt × Txt)) (ks:List KnV) (hev:∀x∈env,x.2.length≤1000000000000000) (hks:ks.length≤1000000000000000) (hkd:∀k∈ks,k.data.length≤1000000000000000)
  (htl:t.length≤1000000000000000) (hen:env.length≤1000000000000000) :
  PC Tryz.prog 4 [.av .str (.s t),.av (.slice 85) (zS env),.av (.slice 57) (zL ks)] (.av .bool (.b true)):=by
 have hkns:(zL ks).er=zL ks:=YO ks
 have hee:=v8 env
 have hmn:=zE5 ks hks
 unfold PC
 refine q7.sub (R:=fun r H'=>r=.av .bool (.b true)) ?_ (fun r H' hr _=>⟨[],HSub.of_sub (List.nil_sublist _),hr,rfl⟩)
 refine q7.of_at laid Tryz.func4 rfl (by simp[Tryz.ntmps4]) fun imm0 w0=>?_
 obtain⟨EK,hEK⟩:∃x,x=zL ks:=⟨_,rfl⟩
 obtain⟨EE,hEE⟩:∃x,x=zS env:=⟨_,rfl⟩
 rw[←hEK]at hmn hkns ⊢
 rw[←hEE]at hee ⊢
 refine AT.seq ?_
 refine qM (cf:=zCZ) laid mixed _ _ _ (by kernel_rfl) ?_
 (simp (maxSteps:=2000000) (disch:=first|omega|assumption) [zz,-List.reduceReplicate])
 refine AT.seq ?_
 refine qM (cf:=zCZ) laid mixed _ _ _ (by kernel_rfl) ?_
 (simp (maxSteps:=2000000) (disch:=first|omega|assumption) [zz,-List.reduceReplicate])
 refine qL VZ rfl rfl (by simp) (by simp[qS]) ?_
 (simp (maxSteps:=2000000) (disch:=first|omega|assumption) [zz,-List.reduceReplicate])
 refine AT.seq ?_
 refine qM (cf:=zCZ) laid mixed _ _ _ (by kernel_rfl) ?_
 have hlI:(t.length:Int)≤1000000000000000:=by omega
 by_cases g1:800<t.length
 ·have g1':(800:Int)<t.length:=by omega
  (simp (maxSteps:=2000000) (disch:=first|omega|assumption) [zz,-List.reduceReplicate,g1,g1',hEE,zS,Tryz.f4])
  done
 have g1':¬(800:Int)<t.length:=by omega
 by_cases g2:10<env.length
 ·have g2':(10:Int)<env.length:=by omega
  (simp (maxSteps:=2000000) (disch:=first|omega|assumption) [zz,-List.reduceReplicate,g1,g1',g2,g2',hEE,zS,Tryz.f4])
  done
 have g2':¬(10:Int)<env.length:=by omega
 have hEs:EE=.sl .no (env.map Z7):=hEE
 (simp (maxSteps:=2000000) (disch:=first|omega|assumption) [zz,-List.reduceReplicate,g1,g1',g2,g2',hEs])
 rw[←hEs]
 refine jP (R:=fun r H'=>∃b,r=.av .bool (.b b)∧H'=[]) rfl (by simp[qQ]) (by simp) ?_ ?_
 ·simpa[TV.er,hkns,q8.er_nil]using hmn
 rintro r H' ⟨mb,rfl,rfl⟩
 cases mb with
 | true=>(simp (maxSteps:=2000000) (disch:=first|omega|assumption) [zz,-List.reduceReplicate,Tryz.f4])
 | false =>
 (simp (maxSteps:=2000000) (disch:=first|omega|assumption) [zz,-List.reduceReplicate])
 refine AT.seq ?_
 refine qM (cf:=zCZ) laid mixed _ _ _ (by kernel_rfl) ?_
 (simp (maxSteps:=2000000) (disch:=first|omega|assumption) [zz,-List.reduceReplicate])
 have hst:=zig t (by omega) env (by omega)
 unfold dS at hst
 rw[←hEE]at hst
 cases hcs:j7 t with
 | error en =>
  obtain⟨e,n⟩:=en
  rw[hcs]at hst
  have hne:¬e=0:=by rcases Z8 hcs with h|h<;>omega
  refine jP (R:=fun r H'=>r=.tup [(.ptr,.nilptr),(.int .i64,.i .i64 e)]∧H'=[]) rfl (by simp[qQ]) (by simp) ?_ ?_
  ·simpa[TV.er,hee,q8.er_nil]using hst
  rintro r H' ⟨rfl,rfl⟩
  (simp (maxSteps:=2000000) (disch:=first|omega|assumption) [zz,-List.reduceReplicate])
  refine AT.seq ?_
  refine qM (cf:=zCZ) laid mixed _ _ _ (by kernel_rfl) ?_
  (simp (maxSteps:=2000000) (disch:=first|omega|assumption) [zz,-List.reduceReplicate,hne,Tryz.f4])
 | ok cs =>
 rw[hcs]at hst
 refine jP (R:=fun r H'=>∃R,r=.tup [(.ptr,.ptr R kQ []),(.int .i64,.i .i64 0)]∧z6 R (W7 env cs) H') rfl (by simp[qQ]) (by simp) ?_ ?_
 ·simpa[TV.er,hee,q8.er_nil]using hst
 rintro r H0 ⟨R,rfl,hH0⟩
 have he0:=hH0.er
 (simp (maxSteps:=2000000) (disch:=first|omega|assumption) [zz,-List.reduceReplicate])
 refine AT.seq ?_
 refine qM (cf:=zCZ) laid mixed _ _ _ (by kernel_rfl) ?_
 (simp (maxSteps:=2000000) (disch:=first|omega|assumption) [zz,-List.reduceReplicate,he0])
 refine AT.seq ?_
 refine qM (cf:=zCZ) laid mixed _ _ _ (by kernel_rfl) ?_
 (simp (maxSteps:=2000000) (disch:=first|omega|assumption) [zz,-List.reduceReplicate])
 refine AT.seq ?_
 refine qM (cf:=zCZ) laid mixed _ _ _ (by kernel_rfl) ?_
 (simp (maxSteps:=2000000) (disch:=first|omega|assumption) [zz,-List.reduceReplicate])
 intro M hM
 refine AT.seq ?_
 refine qM (cf:=zCZ) laid mixed _ _ _ (by kernel_rfl) ?_
 (simp (maxSteps:=2000000) (disch:=first|omega|assumption) [zz,-List.reduceReplicate])
 have hnew:=zeZ env [] (fun _=>true) cs (y8 hcs)
 obtain⟨gd,ak⟩:=zfn hcs (by omega) hev
 obtain⟨_,i0,hi0⟩:=XU hcs
 obtain⟨lines,hlines⟩:∃l,l=z7 t:=⟨_,rfl⟩
 have hl:∃i,yC i lines=.ok cs:=⟨i0,by rw[hlines];exact hi0⟩
 have hI0:BtI env cs lines ks R [] [] (W7 env cs) H0:=⟨hH0,gd,ak,hnew.at_,TrT.nil _ _ _⟩
 have hno0:(W7 env cs).over.kind≠2:=by show (0:Int)≠2;decide
 rw[hEE,hEK]
 refine AT.seqF (fun s'=>∃x,BtE env cs lines ks R x∧Le s' (zDb t env ks M [] x)) ?_ ?_
 ·rintro s' ⟨⟨i,kn,wr,r,H,d⟩,⟨hI,hkn,hwr,hd⟩,hle⟩
  simp only at hI hkn hwr hd
  refine AT.weaken hle ?_
  clear hle s'
  have her:=hI.hH.er
  unfold zDb
  refine AT.seq ?_
  refine qM (cf:=zCZ) laid mixed _ _ _ (by kernel_rfl) ?_
  (simp (maxSteps:=2000000) (disch:=first|omega|assumption) [zz,-List.reduceReplicate])
  refine AT.openMap (b:=M) (k:=9) (e:=9) (es:=wrE (wr.map pdW)) (rest:=H) rfl (by have:=QZ (wr.map pdW);unfold wrO at this;exact this) ?_
  intro en ck j0 w1 hop
  obtain⟨l,hlw⟩:∃l,l=wr.map pdW:=⟨_,rfl⟩
  have hkp:l.map (·.1)=wr.map (·.path):=by rw[hlw];simp[pdW,Function.comp_def]
  have hll:l.length≤1200:=by rw[hlw,List.length_map];exact hwr
  rw[←hlw]at hop
  refine AT.seqF (fun s'=>∃L:List Txt,L.Perm (l.map (·.1))∧Le s' (zCT t env ks M kn d L (.raw (.map en ck) j0 w1) H)) ?_ ?_
  ·rintro s' ⟨L,hL,hle⟩
   refine AT.weaken hle ?_
   clear hle s'
   unfold zCT
   refine AT.shutMap (b:=M) (k:=9) (e:=9) (es:=wrE l) (rest:=H) hop rfl ?_
   clear hop
   have hwel:(wrE l).length=l.length:=by simp[wrE]
   refine AT.seqF (fun s'=>JB env (C9 cs) kn wr r d∧zEJ d∧l.length≠0∧Le s' (zCT t env ks M kn d L (wrO l) H)) ?_ ?_
   rotate_left
   ·refine qM (cf:=zCZ) laid mixed _ _ _ (by kernel_rfl) ?_
    by_cases hk12:d.kind=1∨d.kind=2
    ·have n3:¬d.kind=3:=by omega
     have n4:¬d.kind=4:=by omega
     (simp (maxSteps:=2000000) (disch:=first|omega|assumption) [zz,-List.reduceReplicate,jG,n3,n4,Tryz.f4])
     done
    have hk1:d.kind≠1:=fun e=>hk12 (.inl e)
    have hs:JB env (C9 cs) kn wr r d:=by
     rcases hd with h|h|h
     ·exact absurd (.inl h) hk12
     ·exact absurd (.inr h) hk12
     ·exact h.2.2
    have h34:d.kind=3∨d.kind=4:=by
     rcases hs.ov with⟨g,_⟩|⟨g,_⟩|⟨g,_⟩
     ·exact absurd g hk1
     ·exact .inl g
     ·exact .inr g
    by_cases hl0:l.length=0
    ·rcases h34 with g|g<;>((simp (maxSteps:=2000000) (disch:=first|omega|assumption) [zz,-List.reduceReplicate,jG,g,hwel,hl0,Tryz.f4]))
     done
    rcases h34 with g|g
    ·(simp (maxSteps:=2000000) (disch:=first|omega|assumption) [zz,-List.reduceReplicate,jG,g,hwel,hl0])
     refine⟨hs,hk1,?_⟩
     unfold zCT
     refine Le.of ?_ ?_ ?_ ?_ ?_<;>simp[qU,qG,zX,jG,g,zD0,wrO]<;>try omega
    ·(simp (maxSteps:=2000000) (disch:=first|omega|assumption) [zz,-List.reduceReplicate,jG,g,hwel,hl0])
     refine⟨hs,hk1,?_⟩
     unfold zCT
     refine Le.of ?_ ?_ ?_ ?_ ?_<;>simp[qU,qG,zX,jG,g,zD0,wrO]<;>try omega
   rintro s' ⟨hs,hdk,hl0,hle⟩
   refine AT.weaken hle ?_
   clear hle s' hd
   have hws:=zyQ (kn.map (·.path))
   have hwl:(strs (kn.map (·.path))).length=kn.length:=by simp[strs]
   refine AT.seqF (fun s'=>zEI kn l∧Le s' (zCT t env ks M kn d L (wrO l) H)) ?_ ?_
   rotate_left
   ·unfold zCT
    refine qM (cf:=zCZ) laid mixed _ _ _ (by kernel_rfl) ?_
    (simp (maxSteps:=2000000) (disch:=first|omega|assumption) [zz,-List.reduceReplicate,hwl])
    refine AT.loop' (α:=Nat) (fun j=>zCT t env ks M kn d L (wrO l) H [(142,.av TxS (.sl .no (strs (kn.map (·.path))))),(143,.av (.int .i64) (.i .i64 kn.length)),(144,.av (.int .i64) (.i .i64 j))])
     (fun j=>j≤kn.length∧∀k∈kn.take j,k.path∉l.map (·.1)) (fun j=>kn.length-j) 0 ?_ ?_ ?_
    ·unfold zCT
     refine Le.of ?_ ?_ ?_ ?_ ?_<;>simp[qU,qG,zX,zD0]<;>try omega
    ·exact⟨by omega,by simp⟩
    rintro j ⟨hj,hno⟩ KL hN hE
    unfold zCT
    refine qM (cf:=zCZ) laid mixed _ _ _ (by kernel_rfl) ?_
    by_cases hjl:j<kn.length
    ·have hjl':(j:Int)<kn.length:=by omega
     have hg:(strs (kn.map (·.path)))[j]?=some (.s kn[j].path):=by simp[strs,List.getElem?_eq_getElem hjl]
     obtain⟨x,hx⟩:∃x,x=kn[j]:=⟨_,rfl⟩
     rw[←hx]at hg
     have hg2:∀h,(strs (kn.map (·.path)))[j]'h=.s x.path:=fun h=>by simp[strs,hx]
     have hmf:=VO x.path l
     by_cases hin:x.path∈l.map (·.1)
     ·obtain⟨z,hz⟩:=zcf hin
      rw[hz]at hmf
      simp only[Option.map_some]at hmf
      (simp (maxSteps:=2000000) (disch:=first|omega|assumption) [zz,-List.reduceReplicate,hjl',hjl,hg2,hwl,wrO,hmf])
      refine hE _ _ (by simp) ?_
      (simp (maxSteps:=2000000) (disch:=first|omega|assumption) [zz,-List.reduceReplicate,Tryz.f4])
     ·rw[zcJ hin]at hmf
      simp only[Option.map_none]at hmf
      (simp (maxSteps:=2000000) (disch:=first|omega|assumption) [zz,-List.reduceReplicate,hjl',hjl,hg2,hwl,wrO,hmf])
      refine hN _ (j+1) ?_ ⟨by omega,fun k hk=>?_⟩ (by omega)
      ·unfold zCT
       refine Le.of ?_ ?_ ?_ ?_ ?_<;>simp[qU,qG,zX,zD0,wrO]<;>try omega
      ·rw[List.take_succ_eq_append_getElem hjl,←hx]at hk
       rcases List.mem_append.1 hk with hk|hk
       ·exact hno k hk
       ·rw[List.mem_singleton.1 hk];exact hin
    ·have hjl':¬(j:Int)<kn.length:=by omega
     rw[List.take_of_length_le (by omega)]at hno
     (simp (maxSteps:=2000000) (disch:=first|omega|assumption) [zz,-List.reduceReplicate,hjl',hwl])
     refine hE _ _ (by simp) ?_
     refine⟨hno,?_⟩
     show Le _ (zCT t env ks M kn d L (wrO l) H)
     unfold zCT
     refine Le.of ?_ ?_ ?_ ?_ ?_<;>simp[qU,qG,zX,zD0]<;>try omega
   rintro s' ⟨hno,hle⟩
   refine AT.weaken hle ?_
   clear hle s'
   have hLl:L.length≤1200:=by rw[hL.length_eq,List.length_map];exact hll
   have hLm:∀p,p∈L↔p∈wr.map (·.path):=fun p=>by rw[←hkp];exact hL.mem_iff
   have hab:zky ⟨[],[],t,env,[],zD1,L⟩:=⟨by simp only;omega,by simp only;omega,hev,by simp,by simp,by simp,by simp only;omega⟩
   have hnw:=DZ ⟨[],[],t,env,[],zD1,L⟩ hab
   unfold zes at hnw
   simp only[hcs]at hnw
   have hae:(zD0 t env L).er=kT ⟨[],[],t,env,[],zD1,L⟩:=by
    have e1:=v8 env
    have e2:=zyQ L
    simp only[zD0,kT,AV.er,AV.ers,e1,e2]
    rfl
   have hme:jI ⟨[],[],t,env,[],zD1,L⟩=pJ L [] zD1:=rfl
   rw[hme]at hnw
   unfold zCT
   refine AT.seq ?_
   refine qM (cf:=zCZ) laid mixed _ _ _ (by kernel_rfl) ?_
   (simp (maxSteps:=2000000) (disch:=first|omega|assumption) [zz,-List.reduceReplicate])
   refine qE (R:=fun r H'=>∃B,r=.tup [(.ptr,.ptr B KD []),(.int .i64,.i .i64 0)]∧jJ B (ZR env L (pJ L [] zD1) cs) H') [] ((M,wrO l)::H) (List.Perm.refl _) rfl (by simp[qQ]) (by simp) ?_ ?_
   ·simpa[TV.er,hae,q8.er_nil]using hnw
   rintro r' HB ⟨B,rfl,hB⟩ _
   refine⟨(M,wrO l)::HB,⟨_,List.perm_middle,(List.sublist_append_left HB H).cons_cons _⟩,?_⟩
   (simp (maxSteps:=2000000) (disch:=first|omega|assumption) [zz,-List.reduceReplicate])
   refine AT.seq ?_
   refine qM (cf:=zCZ) laid mixed _ _ _ (by kernel_rfl) ?_
   (simp (maxSteps:=2000000) (disch:=first|omega|assumption) [zz,-List.reduceReplicate])
   obtain⟨m0,hS0⟩:=zec env L (pJ L [] zD1) cs (y8 hcs)
   have hK0:=zbj hcs (env:=env) (by omega) hev L (pJ L [] zD1)
   refine AT.seqF (fun s'=>∃b HB,jJ B b HB∧Z4 env cs L (pJ L [] zD1) kn b∧Le s' (zCT t env ks M kn d L (wrO l) HB [(23,.av .ptr (.ptr B KD []))])) ?_ ?_
   ·rintro s' ⟨b,HB2,hB2,hK,hle⟩
    refine AT.weaken hle ?_
    clear hle s'
    obtain⟨wb,hSb⟩:=hK.s
    obtain⟨f1,f2,f3,f4⟩:=hI.tr.fin hl hLm hs hdk hSb
    have hbe:=hB2.er
    have hout:=QN B hB2 (by have:=hK.rl;omega) (hK.wl (by omega))
    have hers:(zI (yD b).1).er=zI (yD b).1:=KO _
    unfold zCT
    refine AT.seq ?_
    refine qM (cf:=zCZ) laid mixed _ _ _ (by kernel_rfl) ?_
    (simp (maxSteps:=2000000) (disch:=first|omega|assumption) [zz,-List.reduceReplicate])
    refine qE (R:=fun y H'=>y=.tup [(qD Tryz.prog 41,zI (yD b).1),(.bool,.b (yD b).2)]∧jJ B b H') HB2 [(M,wrO l)] (List.perm_append_comm (l₁:=[_])) rfl (by simp[qQ]) (by simp) ?_ ?_
    ·rw[hbe];simpa[TV.er,AV.er]using hout
    rintro y HB3 ⟨rfl,hB3⟩ _
    refine⟨(M,wrO l)::HB3,HSub.of_perm (List.perm_append_comm (l₂:=[_])),?_⟩
    obtain⟨o,ho⟩:∃o,o=(yD b).1:=⟨_,rfl⟩
    have hO:(yD b).2=true∧(o.kind=1↔d.kind=3)∧o.why=d.why∧(o.kind=1→o.outs.length=l.length)∧(∀x∈o.outs,∃z,(l.find? fun y=>decide (y.1=x.path))=some z∧z.2=x.data)∧o.outs.length≤1200:=by
     have hbw:b.wrote=l:=by rw[f2,hlw]
     by_cases hw0:d.why=0
     ·have e:yD b=(⟨1,0,ZH b,b.reads⟩,true):=by
       unfold yD;rw[if_neg (by rw[f1];decide),if_pos (by rw[f3];exact hw0)]
      rw[e]at ho
      subst ho
      refine⟨by rw[e],by simp[f4.2 hw0],hw0.symm,fun _=>by simp[ZH,ZO,hbw],fun x hx=>?_,by simp[ZH,ZO,hbw];exact hll⟩
      simp only[ZH,hbw,List.mem_map]at hx
      obtain⟨p,hp,rfl⟩:=hx
      obtain⟨z,hz⟩:=zcf ((W0 _).mem_iff.1 hp)
      exact⟨z,hz,by simp[hz]⟩
     ·have e:yD b=(⟨2,b.why,[],b.reads⟩,true):=by
       unfold yD;rw[if_neg (by rw[f1];decide),if_neg (by rw[f3];exact hw0)]
      rw[e]at ho
      subst ho
      refine⟨by rw[e],?_,f3,fun h=>by simp at h,by simp,by simp⟩
      constructor
      ·intro h;simp at h
      ·intro h;exact absurd (f4.1 h) hw0
    rw[←ho,hO.1]
    (simp (maxSteps:=2000000) (disch:=first|omega|assumption) [zz,-List.reduceReplicate])
    refine AT.seqF (fun s'=>Le s' (zCT t env ks M kn d L (wrO l) HB3 [(32,.loc 32 [])] [] [(32,(qD Tryz.prog 41,zI o))])) ?_ ?_
    rotate_left
    ·refine qM (cf:=zCZ) laid mixed _ _ _ (by kernel_rfl) ?_
     obtain⟨_,q1,q2,q3,_⟩:=hO
     by_cases k3:d.kind=3
     ·have o1:=q1.2 k3
      have ol:=q3 o1
      (simp (maxSteps:=2000000) (disch:=first|omega|assumption) [zz,-List.reduceReplicate,zI,jG,zU,k3,o1,q2,ol,wrO,hwel])
      unfold zCT
      refine Le.of ?_ ?_ ?_ ?_ ?_<;>simp[qU,qG,zX,zD0,zI,jG,zU,k3,o1,q2,wrO]<;>try omega
     ·have o1:¬o.kind=1:=fun h=>k3 (q1.1 h)
      (simp (maxSteps:=2000000) (disch:=first|omega|assumption) [zz,-List.reduceReplicate,zI,jG,zU,k3,o1,q2,wrO,hwel])
      unfold zCT
      refine Le.of ?_ ?_ ?_ ?_ ?_<;>simp[qU,qG,zX,zD0,zI,jG,zU,k3,o1,q2,wrO]<;>try omega
    rintro s' hle
    refine AT.weaken hle ?_
    clear hle s'
    obtain⟨_,_,_,_,qf,qn⟩:=hO
    have hfg:=KB jZ o.outs
    unfold zCT
    refine qM (cf:=zCZ) laid mixed _ _ _ (by kernel_rfl) ?_
    (simp (maxSteps:=2000000) (disch:=first|omega|assumption) [zz,-List.reduceReplicate,zI,zU])
    refine AT.loop' (α:=Nat) (fun j=>zCT t env ks M kn d L (wrO l) HB3 [(32,.loc 32 []),(244,.av (.slice 63) (.sl .no (o.outs.map jZ))),(245,.av (.int .i64) (.i .i64 o.outs.length)),(246,.av (.int .i64) (.i .i64 j))] [] [(32,(qD Tryz.prog 41,zI o))])
     (fun j=>j≤o.outs.length) (fun j=>o.outs.length-j) 0 ?_ ?_ ?_
    ·unfold zCT
     refine Le.of ?_ ?_ ?_ ?_ ?_<;>simp[qU,qG,zX,zD0,zI,zU]<;>try omega
    ·omega
    rintro j hj KL hN hE
    unfold zCT
    refine qM (cf:=zCZ) laid mixed _ _ _ (by kernel_rfl) ?_
    by_cases hjl:j<o.outs.length
    ·have hjl':(j:Int)<o.outs.length:=by omega
     have hg:=hfg j hjl
     obtain⟨z,hz,hzd⟩:=qf _ (List.getElem_mem hjl)
     obtain⟨x,hx⟩:∃x,x=o.outs[j]:=⟨_,rfl⟩
     rw[←hx]at hg hz hzd
     have hmf:=VO x.path l
     rw[hz]at hmf
     simp only[Option.map_some]at hmf
     (simp (maxSteps:=2000000) (disch:=first|omega|assumption) [zz,-List.reduceReplicate,hjl',hjl,hg,zI,zU,jZ,wrO,hmf,hzd])
     (repeat with_reducible refine om ?_)
     refine hN _ (j+1) ?_ (by omega) (by omega)
     unfold zCT
     refine Le.of ?_ ?_ ?_ ?_ ?_<;>simp[qU,qG,zX,zD0,zI,zU,wrO]<;>try omega
    ·have hjl':¬(j:Int)<o.outs.length:=by omega
     (simp (maxSteps:=2000000) (disch:=first|omega|assumption) [zz,-List.reduceReplicate,hjl',zI,zU])
     refine hE _ _ (by simp) ?_
     (simp (maxSteps:=2000000) (disch:=first|omega|assumption) [zz,-List.reduceReplicate,Tryz.f4])
   refine qM (cf:=zCZ) laid mixed _ _ _ (by kernel_rfl) ?_
   (simp (maxSteps:=2000000) (disch:=first|omega|assumption) [zz,-List.reduceReplicate,hwl])
   refine AT.loop' (α:=Nat × BoxV × q8) (fun x=>zCT t env ks M kn d L (wrO l) x.2.2 [(23,.av .ptr (.ptr B KD [])),(163,.av TxS (.sl .no (strs (kn.map (·.path))))),(164,.av (.int .i64) (.i .i64 kn.length)),(165,.av (.int .i64) (.i .i64 x.1))])
    (fun x=>x.1≤kn.length∧jJ B x.2.1 x.2.2∧Z4 env cs L (pJ L [] zD1) (kn.take x.1) x.2.1) (fun x=>kn.length-x.1) (0,ZR env L (pJ L [] zD1) cs,HB) ?_ ?_ ?_
   ·unfold zCT
    refine Le.of ?_ ?_ ?_ ?_ ?_<;>simp[qU,qG,zX,zD0]<;>try omega
   ·exact⟨by simp,hB,hK0⟩
   rintro⟨j,b,HB2⟩ ⟨hj,hB2,hK⟩ KL hN hE
   simp only at hj hB2 hK hN
   have hbe:=hB2.er
   have hnoL:∀k∈kn,k.path∉L:=fun k hk h=>hno k hk (hL.mem_iff.1 h)
   unfold zCT
   refine qM (cf:=zCZ) laid mixed _ _ _ (by kernel_rfl) ?_
   by_cases hjl:j<kn.length
   rotate_left
   ·have hjl':¬(j:Int)<kn.length:=by omega
    rw[List.take_of_length_le (by omega)]at hK
    (simp (maxSteps:=2000000) (disch:=first|omega|assumption) [zz,-List.reduceReplicate,hjl',hwl])
    refine hE _ _ (by simp) ?_
    refine⟨b,HB2,hB2,hK,?_⟩
    show Le _ (zCT t env ks M kn d L (wrO l) HB2 [(23,.av .ptr (.ptr B KD []))])
    unfold zCT
    refine Le.of ?_ ?_ ?_ ?_ ?_<;>simp[qU,qG,zX,zD0]<;>try omega
   have hjl':(j:Int)<kn.length:=by omega
   obtain⟨wb,hSb⟩:=hK.s
   obtain⟨hov,hak⟩:=hI.tr.box hl hLm hnoL hjl hSb
   have hpk:=hI.tr.pick _ (List.getElem_mem hjl)
   have hdt:=hI.tr.dat _ (List.getElem_mem hjl)
   have htk:kn.take (j+1)=kn.take j++[kn[j]]:=List.take_succ_eq_append_getElem hjl
   obtain⟨x,hx⟩:∃x,x=kn[j]:=⟨_,rfl⟩
   rw[←hx]at hak hpk hdt htk
   have hg2:∀h,(strs (kn.map (·.path)))[j]'h=.s x.path:=fun h=>by simp[strs,hx]
   (simp (maxSteps:=2000000) (disch:=first|omega|assumption) [zz,-List.reduceReplicate,hjl',hjl,hg2,hwl])
   refine qE (R:=fun y H'=>y=.tup [(.str,.s x.path),(.bool,.b true)]∧jJ B b H') HB2 [(M,wrO l)] (List.perm_append_comm (l₁:=[_])) rfl (by simp[qQ]) (by simp) ?_ ?_
   ·rw[hbe]
    have:=zci B hB2
    rw[if_neg (by rw[hov];decide),hov,hak]at this
    simpa[TV.er,AV.er]using this
   rintro y HB3 ⟨rfl,hB3⟩ _
   have hbe3:=hB3.er
   refine⟨(M,wrO l)::HB3,HSub.of_perm (List.perm_append_comm (l₂:=[_])),?_⟩
   (simp (maxSteps:=2000000) (disch:=first|omega|assumption) [zz,-List.reduceReplicate])
   have hkl:=KB zH ks
   refine AT.loop' (α:=Nat) (fun i2=>zCT t env ks M kn d L (wrO l) HB3 [(23,.av .ptr (.ptr B KD [])),(163,.av TxS (.sl .no (strs (kn.map (·.path))))),(164,.av (.int .i64) (.i .i64 kn.length)),(165,.av (.int .i64) (.i .i64 j)),(26,.av .str (.s x.path)),(27,.av .str (.s x.path)),(28,.av .bool (.b true)),(29,.loc 29 []),(176,.av (.slice 57) (zL ks)),(177,.av (.int .i64) (.i .i64 ks.length)),(178,.av (.int .i64) (.i .i64 i2))] [] [(29,(KnT,zH (zCX (ks.take i2) x.path)))])
    (fun i2=>i2≤ks.length) (fun i2=>ks.length-i2) 0 ?_ ?_ ?_
   ·unfold zCT
    refine Le.of ?_ ?_ ?_ ?_ ?_<;>simp[qU,qG,zX,zD0,zH,zCX]<;>try omega
   ·omega
   rintro i2 hi2 KL2 hN2 hE2
   unfold zCT
   refine qM (cf:=zCZ) laid mixed _ _ _ (by kernel_rfl) ?_
   by_cases hil:i2<ks.length
   ·have hil':(i2:Int)<ks.length:=by omega
    have hps:=zDr ks x.path i2 hil
    have hgj:=hkl i2 hil
    obtain⟨q,hq⟩:∃q,q=zCX (ks.take i2) x.path:=⟨_,rfl⟩
    obtain⟨z,hz⟩:∃x,x=ks[i2]:=⟨_,rfl⟩
    rw[←hq,←hz]at hps
    rw[←hz]at hgj
    rw[←hq]
    by_cases e:z.path=x.path
    ·cases f:q.is with
     | false =>
      rw[if_pos ⟨e,f⟩]at hps
      (simp (maxSteps:=2000000) (disch:=first|omega|assumption) [zz,-List.reduceReplicate,hil',hgj,zL,zH,e,f])
      (repeat with_reducible refine om ?_)
      refine hN2 _ (i2+1) ?_ (by omega) (by omega)
      unfold zCT
      refine Le.of ?_ ?_ ?_ ?_ ?_<;>simp[qU,qG,zX,zD0,zH,zL,hps,e]<;>try omega
     | true =>
      rw[if_neg (fun h=>by rw[f]at h;cases h.2)]at hps
      (simp (maxSteps:=2000000) (disch:=first|omega|assumption) [zz,-List.reduceReplicate,hil',hgj,zL,zH,e,f])
      (repeat with_reducible refine om ?_)
      refine hN2 _ (i2+1) ?_ (by omega) (by omega)
      unfold zCT
      refine Le.of ?_ ?_ ?_ ?_ ?_<;>simp[qU,qG,zX,zD0,zH,zL,hps,f]<;>try omega
    ·rw[if_neg (fun h=>e h.1)]at hps
     (simp (maxSteps:=2000000) (disch:=first|omega|assumption) [zz,-List.reduceReplicate,hil',hgj,zL,zH,e])
     (repeat with_reducible refine om ?_)
     refine hN2 _ (i2+1) ?_ (by omega) (by omega)
     unfold zCT
     refine Le.of ?_ ?_ ?_ ?_ ?_<;>simp[qU,qG,zX,zD0,zH,zL,hps]<;>try omega
   ·have hil':¬(i2:Int)<ks.length:=by omega
    rw[List.take_of_length_le (by omega),hpk]
    (simp (maxSteps:=2000000) (disch:=first|omega|assumption) [zz,-List.reduceReplicate,hil'])
    refine hE2 _ _ (by simp) ?_
    have hkb:x.data.length≤1000000000000000:=by rw[←hpk];exact zDx _ hkd
    obtain⟨hgv,hk3⟩:=hK.give x hov hak.symm hdt
    have hbg:=dW B hB3 hK.g x hkb (by have:=hK.rl;omega) (fun h1 h2 h3=>hK.can x h1 h2 hdt)
    rw[hgv]at hbg
    rw[←htk]at hk3
    have hke:=(vU x).1
    (simp (maxSteps:=2000000) (disch:=first|omega|assumption) [zz,-List.reduceReplicate])
    refine qE (R:=fun y H'=>y=.av (.int .i64) (.i .i64 0)∧jJ B (kB x b).2 H') HB3 [(M,wrO l)] (List.perm_append_comm (l₁:=[_])) rfl (by simp[qQ]) (by simp) ?_ ?_
    ·rw[hbe3];simpa[TV.er,AV.er,hke]using hbg
    rintro y HB4 ⟨rfl,hB4⟩ _
    refine⟨(M,wrO l)::HB4,HSub.of_perm (List.perm_append_comm (l₂:=[_])),?_⟩
    (simp (maxSteps:=2000000) (disch:=first|omega|assumption) [zz,-List.reduceReplicate])
    (repeat with_reducible refine om ?_)
    refine hN _ (j+1,(kB x b).2,HB4) ?_ ⟨by omega,hB4,hk3⟩ (by simp only;omega)
    unfold zCT
    refine Le.of ?_ ?_ ?_ ?_ ?_<;>simp[qU,qG,zX,zD0]<;>try omega
  refine qM (cf:=zCZ) laid mixed _ _ _ (by kernel_rfl) ?_
  (simp (maxSteps:=2000000) (disch:=first|omega|assumption) [zz,-List.reduceReplicate])
  intro it hit hit2
  have hsz:en.size=l.length:=by have:=p5 hop.ents;simpa[wrE]using this.symm
  refine AT.loop' (α:=List Nat) (fun ids=>zCT t env ks M kn d (XL (l.map (·.1)) ids) (.raw (.map en ck) j0 w1) H [(118,.av .ptr (.ptr it .other []))] [(it,.raw (.mapIter (some M) ck (xK en ids) ck) (fun _=>0) default)])
   (fun ids=>ids.Nodup∧∀i∈ids,i<en.size) (fun ids=>en.size-ids.length) [] ?_ ?_ ?_
  ·unfold zCT
   refine Le.of ?_ ?_ ?_ ?_ ?_<;>simp[qU,qG,zX,zD0,XL,strs,tkG,xK]<;>try omega
  ·exact⟨List.nodup_nil,by simp⟩
  rintro ids ⟨hnd,hlt⟩ KL hN hE
  have hit':¬M=it:=fun e=>hit e.symm
  unfold zCT
  refine qM (cf:=zCZ) laid mixed _ _ _ (by kernel_rfl) ?_
  (simp (maxSteps:=2000000) (disch:=first|omega|assumption) [zz,-List.reduceReplicate,zeg,hit,hit',zD0])
  refine⟨9,9,wrE l,hop,fun hall=>?_,fun i2 me u v hi hns hes=>?_⟩
  ·refine hE _ _ (by simp) ?_
   have hperm:(XL (l.map (·.1)) ids).Perm (l.map (·.1)):=by
    refine zdP hnd (fun i hi=>by have:=hlt i hi;simpa[hsz]using this) fun i hi=>?_
    have hi':i<en.size:=by simpa[hsz]using hi
    exact(cV hop.st hlt (Array.getElem?_eq_getElem hi')).1 (hall i _ (Array.getElem?_eq_getElem hi'))
   refine⟨_,hperm,?_⟩
   unfold zCT
   refine Le.of ?_ ?_ ?_ ?_ ?_<;>simp[qU,qG,zX,zD0]<;>try omega
  ·have hil:i2<en.size:=(Array.getElem?_eq_some_iff.1 hi).1
   have hni:i2∉ids:=fun h=>hns ((cV hop.st hlt hi).2 h)
   have hic:i2<l.length:=by omega
   have hu:u=AV.s l[i2].1:=by
    simp only[wrE]at hes
    rw[List.getElem?_map,List.getElem?_eq_getElem hic]at hes
    have:=Option.some.inj hes
    exact(congrArg Prod.fst this).symm
   subst hu
   have hGn:XL (l.map (·.1)) (ids++[i2])=XL (l.map (·.1)) ids++[l[i2].1]:=by
    simp[XL,List.getElem?_eq_getElem hic]
   have hnd2:(ids++[i2]).Nodup:=List.nodup_append.2 ⟨hnd,by simp,fun a ha b hb e=>by simp only[List.mem_singleton]at hb;subst hb;exact hni (e▸ha)⟩
   have hlt2:∀k∈ids++[i2],k<en.size:=fun k hk=>by
    rcases List.mem_append.1 hk with h|h
    ·exact hlt k h
    ·simp only[List.mem_singleton]at h;omega
   have hle2:=gK en.size _ hnd2 hlt2
   rw[zdQ en ids hi]
   refine⟨9,9,wrE l,hop,i2,me,hi,AV.s l[i2].1,v,hes,rfl,?_⟩
   (simp (maxSteps:=2000000) (disch:=first|omega|assumption) [zz,-List.reduceReplicate])
   have hkl:(XL (l.map (·.1)) ids).length≤1200:=by
    have h1:(XL (l.map (·.1)) ids).length≤ids.length:=by simp[XL]
    simp at hle2
    omega
   refine zD9 (by simp) (by simp[strs];omega) (by simp[strs];omega) (by simp) (by simp) ?_
   (simp (maxSteps:=2000000) (disch:=first|omega|assumption) [zz,-List.reduceReplicate])
   refine hN _ (ids++[i2]) ?_ ⟨hnd2,hlt2⟩ (by simp at hle2 ⊢;omega)
   unfold zCT
   rw[hGn]
   refine Le.of ?_ ?_ ?_ ?_ ?_<;>simp[qU,qG,zX,zD0,strs]<;>try omega
   all_goals (intro j;by_cases h1:j=127<;>simp[h1])
 refine qM (cf:=zCZ) laid mixed _ _ _ (by kernel_rfl) ?_
 (simp (maxSteps:=2000000) (disch:=first|omega|assumption) [zz,-List.reduceReplicate])
 refine AT.loop' (α:=BtX) (fun x=>zDb t env ks M [(7,.av .ptr (.ptr R kQ [])),(59,.av (.int .i64) (.i .i64 x.i))] x)
  (fun x=>BtI env cs lines ks R x.kn x.wr x.r x.H∧x.r.over.kind≠2∧x.i≤1200∧x.kn.length≤x.i∧x.wr.length≤x.i∧(x.i=0∨x.d.kind=1∨x.d.kind=2)) (fun x=>1200-x.i) ⟨0,[],[],W7 env cs,H0,do0⟩ ?_ ?_ ?_
 ·unfold zDb
  refine Le.of ?_ ?_ ?_ ?_ ?_<;>simp[qU,qG,tkG,strs,jG,do0,wrO,wrE,zX]<;>try omega
 ·exact⟨hI0,hno0,by simp,by simp,by simp,.inl rfl⟩
 rintro⟨i,kn,wr,r,H,d⟩ ⟨hI,hno,hi,hkn,hwr,hd⟩ KL hN hE
 simp only at hI hno hi hkn hwr hd hN
 unfold zDb
 refine qM (cf:=zCZ) laid mixed _ _ _ (by kernel_rfl) ?_
 by_cases hlt:i<1200
 rotate_left
 ·have hi2:i=1200:=by omega
  subst hi2
  (simp (maxSteps:=2000000) (disch:=first|omega|assumption) [zz,-List.reduceReplicate])
  refine hE _ _ (by simp) ?_
  refine⟨⟨1200,kn,wr,r,H,d⟩,⟨hI,by simp only;omega,by simp only;omega,by rcases hd with h|h|h<;>first|omega|exact .inl h|exact .inr (.inl h)⟩,?_⟩
  unfold zDb
  refine Le.of ?_ ?_ ?_ ?_ ?_<;>simp[qU,qG,zX]<;>try omega
 have hlt':(i:Int)<1200:=by omega
 have her:=hI.hH.er
 have hwe:∀l,(wrO l).er=wrO l:=QZ
 (simp (maxSteps:=2000000) (disch:=first|omega|assumption) [zz,-List.reduceReplicate,hlt'])
 obtain⟨d1,hd1⟩:∃x,x=(w9 r).1:=⟨_,rfl⟩
 obtain⟨r1,hr1⟩:∃x,x=(w9 r).2:=⟨_,rfl⟩
 have hg1:=hI.g.next
 have ha1:=hI.a.next hI.g.inv
 have hn:=hI.at_.next hno
 have hnx:=zmk R hI.hH hI.g
 rw[←hr1]at hg1 ha1 hn hnx
 rw[←hd1]at hn hnx
 refine qE (R:=fun y H'=>y=.av DoT (jG d1)∧z6 R r1 H') H [(M,wrO (wr.map pdW))] (List.perm_append_comm (l₁:=[_])) rfl (by simp[qQ]) (by simp) ?_ ?_
 ·rw[her];simpa[TV.er,AV.er]using hnx
 rintro y H1 ⟨rfl,hH1⟩ _
 have her1:=hH1.er
 clear hnx
 refine⟨(M,wrO (wr.map pdW))::H1,HSub.of_perm (List.perm_append_comm (l₂:=[_])),?_⟩
 rcases hn with⟨h1,h2,h3,h4⟩|hs
 ·-- it writes
  have hmf:=VO d1.path (wr.map pdW)
  have hwp:(wr.map pdW).map (·.1)=wr.map (·.path):=by simp[pdW,Function.comp_def]
  by_cases hin:d1.path∈wr.map (·.path)
  ·obtain⟨z,hz⟩:=zcf (l:=wr.map pdW) (by rw[hwp];exact hin)
   rw[hz]at hmf
   simp only[Option.map_some]at hmf
   (simp (maxSteps:=2000000) (disch:=first|omega|assumption) [zz,-List.reduceReplicate,jG,h1,wrO,hmf])
   refine hE _ _ (by simp) ?_
   (simp (maxSteps:=2000000) (disch:=first|omega|assumption) [zz,-List.reduceReplicate,Tryz.f4])
  ·have hz:=zcJ (l:=wr.map pdW) (by rw[hwp];exact hin)
   have hmp:=zfV d1.path d1.data (wr.map pdW) (by rw[hwp];exact hin)
   rw[hz]at hmf
   simp only[Option.map_none]at hmf
   (simp (maxSteps:=2000000) (disch:=first|omega|assumption) [zz,-List.reduceReplicate,jG,h1,wrO,hmf,hmp])
   (repeat with_reducible refine om ?_)
   refine hN _ ⟨i+1,kn,wr++[d1],r1,H1,d1⟩ ?_ ⟨⟨hH1,hg1,ha1.1,h2,hI.tr.write d1 hin⟩,by simp only;rw[h4];decide,by simp only;omega,by simp only;omega,by simp;omega,.inr (.inr h1)⟩ (by simp only;omega)
   unfold zDb
   refine Le.of ?_ ?_ ?_ ?_ ?_<;>simp[qU,qG,zX,jG,h1,wrO,pdW]<;>try omega
 ·have h2:d1.kind≠2:=by
   rcases hs.ov with⟨g,_⟩|⟨g,_⟩|⟨g,_⟩<;>rw[g]<;>decide
  by_cases h1:d1.kind=1
  rotate_left
  ·(simp (maxSteps:=2000000) (disch:=first|omega|assumption) [zz,-List.reduceReplicate,jG,h1,h2])
   refine hE _ _ (by simp) ?_
   refine⟨⟨i,kn,wr,r1,H1,d1⟩,⟨⟨hH1,hg1,ha1.1,hs.at_,hI.tr⟩,by simp only;omega,by simp only;omega,.inr (.inr ⟨h1,h2,hs⟩)⟩,?_⟩
   unfold zDb
   refine Le.of ?_ ?_ ?_ ?_ ?_<;>simp[qU,qG,zX,jG]<;>try omega
  ·(simp (maxSteps:=2000000) (disch:=first|omega|assumption) [zz,-List.reduceReplicate,jG,h1,h2])
   refine zD9 (by simp) (by simp[strs];omega) (by simp[strs];omega) (by simp) (by simp) ?_
   (simp (maxSteps:=2000000) (disch:=first|omega|assumption) [zz,-List.reduceReplicate,h1])
   obtain⟨p,hp⟩:∃p,p=d1.path:=⟨_,rfl⟩
   rw[←hp]
   have hdp:d1.path=p:=hp.symm
   have hkl:=KB zH ks
   refine AT.loop' (α:=Nat) (fun j=>zDb t env ks M [(7,.av .ptr (.ptr R kQ [])),(59,.av (.int .i64) (.i .i64 i)),(14,.loc 14 []),(90,.av (.slice 57) (zL ks)),(91,.av (.int .i64) (.i .i64 ks.length)),(92,.av (.int .i64) (.i .i64 j))] ⟨i,kn++[⟨p,false,[]⟩],wr,r1,H1,d1⟩ [(14,(KnT,zH (zCX (ks.take j) p)))])
    (fun j=>j≤ks.length) (fun j=>ks.length-j) 0 ?_ ?_ ?_
   ·unfold zDb
    refine Le.of ?_ ?_ ?_ ?_ ?_<;>simp[qU,qG,zX,jG,h1,strs,zH,zCX,hdp]<;>try omega
    all_goals (intro k;by_cases hk:k=86<;>simp[hk])
   ·omega
   rintro j hj KL2 hN2 hE2
   unfold zDb
   refine qM (cf:=zCZ) laid mixed _ _ _ (by kernel_rfl) ?_
   by_cases hjl:j<ks.length
   ·have hjl':(j:Int)<ks.length:=by omega
    have hps:=zDr ks p j hjl
    have hgj:=hkl j hjl
    obtain⟨q,hq⟩:∃q,q=zCX (ks.take j) p:=⟨_,rfl⟩
    obtain⟨x,hx⟩:∃x,x=ks[j]:=⟨_,rfl⟩
    rw[←hq,←hx]at hps
    rw[←hx]at hgj
    rw[←hq]
    by_cases e:x.path=p
    ·cases f:q.is with
     | false =>
      rw[if_pos ⟨e,f⟩]at hps
      (simp (maxSteps:=2000000) (disch:=first|omega|assumption) [zz,-List.reduceReplicate,hjl',hgj,zL,zH,jG,hdp,e,f])
      (repeat with_reducible refine om ?_)
      refine hN2 _ (j+1) ?_ (by omega) (by omega)
      unfold zDb
      refine Le.of ?_ ?_ ?_ ?_ ?_<;>simp[qU,qG,zX,jG,zH,zL,hps,e,hdp]<;>try omega
     | true =>
      rw[if_neg (fun h=>by rw[f]at h;cases h.2)]at hps
      (simp (maxSteps:=2000000) (disch:=first|omega|assumption) [zz,-List.reduceReplicate,hjl',hgj,zL,zH,jG,hdp,e,f])
      (repeat with_reducible refine om ?_)
      refine hN2 _ (j+1) ?_ (by omega) (by omega)
      unfold zDb
      refine Le.of ?_ ?_ ?_ ?_ ?_<;>simp[qU,qG,zX,jG,zH,zL,hps,f,hdp]<;>try omega
    ·rw[if_neg (fun h=>e h.1)]at hps
     (simp (maxSteps:=2000000) (disch:=first|omega|assumption) [zz,-List.reduceReplicate,hjl',hgj,zL,zH,jG,hdp,e])
     (repeat with_reducible refine om ?_)
     refine hN2 _ (j+1) ?_ (by omega) (by omega)
     unfold zDb
     refine Le.of ?_ ?_ ?_ ?_ ?_<;>simp[qU,qG,zX,jG,zH,zL,hps,hdp]<;>try omega
   ·have hjl':¬(j:Int)<ks.length:=by omega
    rw[List.take_of_length_le (by omega)]
    (simp (maxSteps:=2000000) (disch:=first|omega|assumption) [zz,-List.reduceReplicate,hjl'])
    refine hE2 _ _ (by simp) ?_
    (simp (maxSteps:=2000000) (disch:=first|omega|assumption) [zz,-List.reduceReplicate])
    obtain⟨kk,hkk⟩:∃q,q=zCX ks p:=⟨_,rfl⟩
    have hkp:kk.path=p:=by rw[hkk];exact zDp p ks
    have hkb:kk.data.length≤1000000000000000:=by rw[hkk];exact zDx p hkd
    rw[←hkk]
    have hgv:=zmH R hH1 hg1 kk hkb
    have hke:=(vU kk).1
    refine qE (R:=fun y H'=>y=.av (.int .i64) (.i .i64 (QB kk r1).1)∧z6 R (QB kk r1).2 H') H1 [(M,wrO (wr.map pdW))] (List.perm_append_comm (l₁:=[_])) rfl (by simp[qQ]) (by simp) ?_ ?_
    ·rw[her1];simpa[TV.er,AV.er,hke]using hgv
    rintro y H2 ⟨rfl,hH2⟩ _
    refine⟨(M,wrO (wr.map pdW))::H2,HSub.of_perm (List.perm_append_comm (l₂:=[_])),?_⟩
    by_cases hz:(QB kk r1).1=0
    rotate_left
    ·(simp (maxSteps:=2000000) (disch:=first|omega|assumption) [zz,-List.reduceReplicate,hz])
     refine hE _ _ (by simp) ?_
     (simp (maxSteps:=2000000) (disch:=first|omega|assumption) [zz,-List.reduceReplicate,Tryz.f4])
    have hw:=hs.waits.1 h1
    have hda:=hs.asks hw
    have hpa:kk.path=r1.asks:=by rw[hkp,hp,hda]
    have hnb:kk.is=true→kk.data.length≤65536:=fun hi=>by
     refine Classical.byContradiction fun hb=>?_
     unfold QB at hz
     simp only[p9 hs.stops]at hz
     rw[if_neg (by rw[hw];decide),if_neg (by simp[hpa]),if_pos ⟨hi,by omega⟩]at hz
     simp at hz
    obtain⟨_,q2,q3,_⟩:=hs.give kk hw hpa hnb
    have htr:=hI.tr.read hl hs h1 (by rw[hda];exact ha1.2 hw) (by rw[←hp,←hkk];exact hnb)
    rw[←hp,←hkk]at htr
    (simp (maxSteps:=2000000) (disch:=first|omega|assumption) [zz,-List.reduceReplicate,hz])
    (repeat with_reducible refine om ?_)
    refine hN _ ⟨i+1,kn++[kk],wr,(QB kk r1).2,H2,d1⟩ ?_ ⟨⟨hH2,hg1.give kk (fun h=>by have:=hnb h;omega),ha1.1.give hg1.inv kk,q2,htr⟩,by simp only;rw[q3];decide,by simp only;omega,by simp;omega,by simp only;omega,.inr (.inl h1)⟩ (by simp only;omega)
    unfold zDb
    refine Le.of ?_ ?_ ?_ ?_ ?_<;>simp[qU,qG,zX,strs,hkp]<;>try omega
end Go.Proofs.YtooipdkilgpojaaGreatDoor
end
