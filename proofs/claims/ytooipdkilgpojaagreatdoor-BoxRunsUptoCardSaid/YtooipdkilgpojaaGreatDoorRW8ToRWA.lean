/- What stands behind a line's first word. No condition beyond each theorem's own. -/
import Derived.Test.YtooipdkilgpojaaGreatDoorRW7ToBQ3
import Derived.Test.YtooipdkilgpojaaGreatDoorBX7ToBR1
set_option linter.unusedSimpArgs false
set_option linter.unusedVariables false
set_option linter.unusedSectionVars false
section
set_option maxRecDepth 100000
namespace Go.Proofs.YtooipdkilgpojaaGreatDoor
open Go Go.Ab
open Classical
variable [Sel] [SelPow] [SelMax]
theorem zHJ {c:UInt8} (h:vV c=true):c=32∨c=9:=by simpa[vV]using h
theorem zHO {c:UInt8} (h:vV c=false):c≠32∧c≠9:=by simpa[vV]using h
set_option maxHeartbeats 8000000 in
theorem zHI (l:Txt) (hl:l.length≤1000000000):PC Tryz.prog 159 [.av .str (.s l)] (.av .str (.s (V9 l))):=by
 refine zow Tryz.func159 cf0 fun imm0 w0=>?_
 simp (disch:=omega) [zz]
 refine AT.loop' (α:=Nat) (fun k=>St.of [(0,.av .str (.s l)),(3,.av (.int .i64) (.i .i64 k))] [] (fun _=>0) [])
  (fun k=>k≤l.length∧xP (l.drop k)=xP l) (fun k=>l.length-k) 0 ?_ ?_ ?_
 ·apply Le.of<;>simp[qU,qG,zX]<;>try omega
 ·simp
 rintro k ⟨hk,hd⟩ KL hN hE
 refine qM (cf:=cf0) laid mixed _ _ _ (by kernel_rfl) ?_
 by_cases hlt:k<l.length
 ·have hlt':(k:Int)<l.length:=by omega
  have hg:l[k]?=some l[k]:=List.getElem?_eq_getElem hlt
  have h32:((l[k].toNat:Nat):Int)=32↔l[k]=32:=u8i l[k] 32
  have h9:((l[k].toNat:Nat):Int)=9↔l[k]=9:=u8i l[k] 9
  have hdk:l.drop k=l[k]::l.drop (k+1):=List.drop_eq_getElem_cons hlt
  cases hs:vV l[k]with
  | true =>
   have hd2:xP (l.drop (k+1))=xP l:=by rw[←hd,hdk,xP,if_pos hs]
   rcases zHJ hs with h|h
   ·have h':=h32.2 h
    simp (disch:=omega) [zz,hlt,hlt',hg,h']
    refine hN _ (k+1) ?_ ⟨by omega,hd2⟩ (by omega)
    apply Le.of<;>simp[qU,qG,zX]<;>try omega
   ·have h':=h9.2 h
    have h2:¬((l[k].toNat:Nat):Int)=32:=by rw[h'];decide
    simp (disch:=omega) [zz,hlt,hlt',hg,h',h2]
    refine hN _ (k+1) ?_ ⟨by omega,hd2⟩ (by omega)
    apply Le.of<;>simp[qU,qG,zX]<;>try omega
  | false =>
   obtain⟨n1,n2⟩:=zHO hs
   have m1:¬((l[k].toNat:Nat):Int)=32:=fun h=>n1 (h32.1 h)
   have m2:¬((l[k].toNat:Nat):Int)=9:=fun h=>n2 (h9.1 h)
   simp (disch:=omega) [zz,hlt,hlt',hg,m1,m2]
   refine hE _ _ (by simp) ?_
   have hx:xP l=l.drop k:=by rw[←hd,hdk,xP,if_neg (by rw[hs];decide)]
   clear hN hE
   simp (disch:=omega) [zz]
   refine AT.loop' (α:=Nat) (fun j=>St.of [(0,.av .str (.s l)),(3,.av (.int .i64) (.i .i64 j))] [] (fun _=>0) [])
    (fun j=>j≤l.length∧Q2 (l.drop j)=Q2 (xP l)) (fun j=>l.length-j) k ?_ ?_ ?_
   ·apply Le.of<;>simp[qU,qG,zX]<;>try omega
   ·exact⟨by omega,by rw[hx]⟩
   rintro j ⟨hj,hw⟩ KL2 hN2 hE2
   refine qM (cf:=cf0) laid mixed _ _ _ (by kernel_rfl) ?_
   by_cases hjl:j<l.length
   ·have hjl':(j:Int)<l.length:=by omega
    have hgj:l[j]?=some l[j]:=List.getElem?_eq_getElem hjl
    have j32:((l[j].toNat:Nat):Int)=32↔l[j]=32:=u8i l[j] 32
    have j9:((l[j].toNat:Nat):Int)=9↔l[j]=9:=u8i l[j] 9
    have hdj:l.drop j=l[j]::l.drop (j+1):=List.drop_eq_getElem_cons hjl
    cases hsj:vV l[j]with
    | true =>
     have hv:V9 l=l.drop (j+1):=by
      unfold V9
      rw[←hw,hdj,Q2,if_pos hsj]
      simp
     have hne:¬(j:Int)=l.length:=by omega
     rcases zHJ hsj with h|h
     ·have h':=j32.2 h
      simp (disch:=omega) [zz,hjl,hjl',hgj,h']
      refine hE2 _ _ (by simp) ?_
      simp (disch:=omega) [zz,hne]
      (repeat with_reducible refine om ?_)
      simp (disch:=omega) [zz,hv,Tryz.f159]
     ·have h':=j9.2 h
      have h2:¬((l[j].toNat:Nat):Int)=32:=by rw[h'];decide
      simp (disch:=omega) [zz,hjl,hjl',hgj,h',h2]
      refine hE2 _ _ (by simp) ?_
      simp (disch:=omega) [zz,hne]
      (repeat with_reducible refine om ?_)
      simp (disch:=omega) [zz,hv,Tryz.f159]
    | false =>
     obtain⟨n1,n2⟩:=zHO hsj
     have m1:¬((l[j].toNat:Nat):Int)=32:=fun h=>n1 (j32.1 h)
     have m2:¬((l[j].toNat:Nat):Int)=9:=fun h=>n2 (j9.1 h)
     have hw2:Q2 (l.drop (j+1))=Q2 (xP l):=by rw[←hw,hdj,Q2,if_neg (by rw[hsj];decide)]
     simp (disch:=omega) [zz,hjl,hjl',hgj,m1,m2]
     refine hN2 _ (j+1) ?_ ⟨by omega,hw2⟩ (by omega)
     apply Le.of<;>simp[qU,qG,zX]<;>try omega
   ·have hjn:j=l.length:=by omega
    subst hjn
    have hjl':¬(l.length:Int)<l.length:=by omega
    have hv:V9 l=[]:=by
     unfold V9
     rw[←hw,List.drop_length]
     rfl
    simp (disch:=omega) [zz,hjl']
    refine hE2 _ _ (by simp) ?_
    simp (disch:=omega) [zz,hv,Tryz.f159]
 ·have hkn:k=l.length:=by omega
  have hlt':¬(k:Int)<l.length:=by omega
  have hx:xP l=l.drop k:=by rw[←hd,hkn,List.drop_length];rfl
  simp (disch:=omega) [zz,hlt']
  refine hE _ _ (by simp) ?_
  clear hN hE
  simp (disch:=omega) [zz]
  refine AT.loop' (α:=Nat) (fun j=>St.of [(0,.av .str (.s l)),(3,.av (.int .i64) (.i .i64 j))] [] (fun _=>0) [])
   (fun j=>j≤l.length∧Q2 (l.drop j)=Q2 (xP l)) (fun j=>l.length-j) k ?_ ?_ ?_
  ·apply Le.of<;>simp[qU,qG,zX]<;>try omega
  ·exact⟨by omega,by rw[hx]⟩
  rintro j ⟨hj,hw⟩ KL2 hN2 hE2
  refine qM (cf:=cf0) laid mixed _ _ _ (by kernel_rfl) ?_
  by_cases hjl:j<l.length
  ·have hjl':(j:Int)<l.length:=by omega
   have hgj:l[j]?=some l[j]:=List.getElem?_eq_getElem hjl
   have j32:((l[j].toNat:Nat):Int)=32↔l[j]=32:=u8i l[j] 32
   have j9:((l[j].toNat:Nat):Int)=9↔l[j]=9:=u8i l[j] 9
   have hdj:l.drop j=l[j]::l.drop (j+1):=List.drop_eq_getElem_cons hjl
   cases hsj:vV l[j]with
   | true =>
    have hv:V9 l=l.drop (j+1):=by
     unfold V9
     rw[←hw,hdj,Q2,if_pos hsj]
     simp
    have hne:¬(j:Int)=l.length:=by omega
    rcases zHJ hsj with h|h
    ·have h':=j32.2 h
     simp (disch:=omega) [zz,hjl,hjl',hgj,h']
     refine hE2 _ _ (by simp) ?_
     simp (disch:=omega) [zz,hne]
     (repeat with_reducible refine om ?_)
     simp (disch:=omega) [zz,hv,Tryz.f159]
    ·have h':=j9.2 h
     have h2:¬((l[j].toNat:Nat):Int)=32:=by rw[h'];decide
     simp (disch:=omega) [zz,hjl,hjl',hgj,h',h2]
     refine hE2 _ _ (by simp) ?_
     simp (disch:=omega) [zz,hne]
     (repeat with_reducible refine om ?_)
     simp (disch:=omega) [zz,hv,Tryz.f159]
   | false =>
    obtain⟨n1,n2⟩:=zHO hsj
    have m1:¬((l[j].toNat:Nat):Int)=32:=fun h=>n1 (j32.1 h)
    have m2:¬((l[j].toNat:Nat):Int)=9:=fun h=>n2 (j9.1 h)
    have hw2:Q2 (l.drop (j+1))=Q2 (xP l):=by rw[←hw,hdj,Q2,if_neg (by rw[hsj];decide)]
    simp (disch:=omega) [zz,hjl,hjl',hgj,m1,m2]
    refine hN2 _ (j+1) ?_ ⟨by omega,hw2⟩ (by omega)
    apply Le.of<;>simp[qU,qG,zX]<;>try omega
  ·have hjn:j=l.length:=by omega
   subst hjn
   have hjl':¬(l.length:Int)<l.length:=by omega
   have hv:V9 l=[]:=by
    unfold V9
    rw[←hw,List.drop_length]
    rfl
   simp (disch:=omega) [zz,hjl']
   refine hE2 _ _ (by simp) ?_
   simp (disch:=omega) [zz,hv,Tryz.f159]
noncomputable def zGP (r:StV × KnV):TV:=.tup [(StT,K0 r.1),(KnT,zH r.2)]
abbrev zIp:Cfg:=⟨fun _=>false,fun _=>false⟩
set_option maxHeartbeats 16000000 in
theorem zHQ (s:StV) (kn:List KnV) (p:Txt) (h1:s.asked.length≤1000000) (h2:kn.length≤1000000000):PC Tryz.prog 156 [.av StT (K0 s),.av (.slice 57) (zL kn),.av .str (.s p)] (zGP (y7 kn p s)):=by
 have hf:=zGv s 6
 have hfe:=zGn (yZ 6 s)
 have h3:=zGp s.wrote
 have h4:=zHv s.stop
 have h5:∀l:List Txt,AV.ers (strs l)=strs l:=fun l=>zjB l
 have hke:=fun k:KnV=>(vU k).1
 have hha:=zHS s.asked p (by omega)
 obtain⟨X,hX⟩:∃X,X=y7 kn p s:=⟨_,rfl⟩
 rw[←hX]
 refine zow Tryz.func156 zIp fun imm0 w0=>?_
 simp (disch:=omega) [zz,K0]
 refine zcv hha ?_
 by_cases hin:p∈s.asked
 ·simp (disch:=omega) [zz,hin]
  have hv:X=match zQ kn p with
   | some k=>(s,k)
   | none=>({ s with stop:=⟨1,p,[],0⟩ },kn0):=by
   rw[hX];unfold y7
   rw[if_neg (fun h=>h.1 hin)]
   simp only[hin,if_true]
   cases zQ kn p<;>rfl
  obtain⟨s1,hs1⟩:∃s1,s1=s:=⟨_,rfl⟩
  rw[←hs1]at hv
  refine AT.loop' (α:=Nat) (fun k=>St.of [(1,.av (.slice 57) (zL kn)),(2,.av .str (.s p)),(3,.loc 3 []),(6,.loc 6 []),(7,.loc 7 []),(8,.av (.int .i64) (.i .i64 k))] [(3,(StT,K0 s1)),(6,(StT,.agg [.s [],.sl .full [],.sl .full [],.agg [.i .i64 0,.s [],.s [],.i .i64 0]])),(7,(KnT,.agg [.s [],.b false,.s []]))] (fun _=>2) [])
   (fun k=>k≤kn.length∧∀i (h:i<kn.length),i<k→kn[i].path≠p) (fun k=>kn.length-k) 0 ?_ ?_ ?_
  ·apply Le.of<;>simp[qU,qG,K0,st0,do0,jG,zGl,strs,kn0,zH,hs1]<;>try omega
  ·exact⟨by omega,fun i h hi=>by omega⟩
  rintro k ⟨hk,hno⟩ KL hN hE
  refine qM (cf:=zIp) laid mixed _ _ _ (by kernel_rfl) ?_
  have he1:=zGn s1
  by_cases hlt:k<kn.length
  ·have hlt':(k:Int)<kn.length:=by omega
   have hg:=pZ kn k hlt
   by_cases hc:kn[k].path=p
   ·have hfk:=zfu hlt (fun i h hi=>hno i h hi) hc
    rw[hfk]at hv
    simp only at hv
    have hke1:=hke kn[k]
    obtain⟨q,hq⟩:∃q,q=kn[k]:=⟨_,rfl⟩
    rw[←hq]at hg hc hv hke1
    have hgq:(kn.map zH)[k]?=some (.agg [.s p,.b q.is,.s q.data]):=by rw[hg,←hc];rfl
    have hqe:zH q=.agg [.s p,.b q.is,.s q.data]:=by rw[←hc];rfl
    simp (disch:=omega) [zz,hlt',hgq,zL]
    (repeat with_reducible refine om ?_)
    refine hE _ _ (by simp) ?_
    simp (disch:=omega) [zz,hv,zGP,he1,hqe,AV.er,AV.ers,Tryz.f156]
   ·simp (disch:=omega) [zz,hlt',hg,zH,zL,hc]
    refine hN _ (k+1) ?_ ⟨by omega,fun i h hi=>?_⟩ (by omega)
    ·apply Le.of<;>simp[qU,qG,zL,K0]<;>try omega
    ·rcases Nat.lt_or_ge i k with h1|h1
     ·exact hno i h h1
     ·have:i=k:=by omega
      subst this;exact hc
  ·have hlt':¬(k:Int)<kn.length:=by omega
   have hfk:=zeq (l:=kn) (p:=p) fun i h=>hno i h (by omega)
   rw[hfk]at hv
   simp only at hv
   have he2:=zGn { s1 with stop:=⟨1,p,[],0⟩ }
   have h6:=zGp s1.wrote
   simp (disch:=omega) [zz,hlt',zL]
   refine hE _ _ (by simp) ?_
   simp (disch:=omega) [zz,K0]
   simp (disch:=omega) [zz,hv,zGP,K0,jG,kn0,zH,h6,h5,AV.er,AV.ers,Tryz.f156]
 ·by_cases h500:s.asked.length=500
  ·have h500':(s.asked.length:Int)=500:=by omega
   have hv:X=(yZ 6 s,kn0):=by rw[hX];unfold y7;rw[if_pos ⟨hin,h500⟩]
   rw[hv]
   simp (disch:=omega) [zz,hin,qX,h500']
   refine qL hf rfl rfl (by simp) (by simp[qS,coC,TV.er,AV.er,AV.ers,K0,h3,h4,h5]) ?_
   simp (disch:=omega) [zz,hfe,zGP,kn0,zH,Tryz.f156]
  ·have h500':¬(s.asked.length:Int)=500:=by omega
   simp (disch:=omega) [zz,hin,qX,h500']
   simp (disch:=omega) [zz,wB]
   (repeat with_reducible refine om ?_)
   have hv:X=match zQ kn p with
    | some k=>({ s with asked:=s.asked++[p] },k)
    | none=>({ s with asked:=s.asked++[p],stop:=⟨1,p,[],0⟩ },kn0):=by
    rw[hX];unfold y7
    rw[if_neg (fun h=>h500 h.2)]
    simp only[hin,if_false]
    cases zQ kn p<;>rfl
   obtain⟨s1,hs1⟩:∃s1:StV,s1={ s with asked:=s.asked++[p] }:=⟨_,rfl⟩
   have hs2:({ s with asked:=s.asked++[p],stop:=⟨1,p,[],0⟩ }:StV)={ s1 with stop:=⟨1,p,[],0⟩ }:=by rw[hs1]
   rw[hs2,←hs1]at hv
   refine AT.loop' (α:=Nat) (fun k=>St.of [(1,.av (.slice 57) (zL kn)),(2,.av .str (.s p)),(3,.loc 3 []),(6,.loc 6 []),(7,.loc 7 []),(8,.av (.int .i64) (.i .i64 k))] [(3,(StT,K0 s1)),(6,(StT,.agg [.s [],.sl .full [],.sl .full [],.agg [.i .i64 0,.s [],.s [],.i .i64 0]])),(7,(KnT,.agg [.s [],.b false,.s []]))] (fun _=>2) [])
    (fun k=>k≤kn.length∧∀i (h:i<kn.length),i<k→kn[i].path≠p) (fun k=>kn.length-k) 0 ?_ ?_ ?_
   ·apply Le.of<;>simp[qU,qG,K0,st0,do0,jG,zGl,strs,kn0,zH,hs1,Z6,J5,zfd,zbn,zk8,leA]<;>try omega
    all_goals (intro j;split<;>(try split)<;>(try split)<;>omega)
   ·exact⟨by omega,fun i h hi=>by omega⟩
   rintro k ⟨hk,hno⟩ KL hN hE
   refine qM (cf:=zIp) laid mixed _ _ _ (by kernel_rfl) ?_
   have he1:=zGn s1
   by_cases hlt:k<kn.length
   ·have hlt':(k:Int)<kn.length:=by omega
    have hg:=pZ kn k hlt
    by_cases hc:kn[k].path=p
    ·have hfk:=zfu hlt (fun i h hi=>hno i h hi) hc
     rw[hfk]at hv
     simp only at hv
     have hke1:=hke kn[k]
     obtain⟨q,hq⟩:∃q,q=kn[k]:=⟨_,rfl⟩
     rw[←hq]at hg hc hv hke1
     have hgq:(kn.map zH)[k]?=some (.agg [.s p,.b q.is,.s q.data]):=by rw[hg,←hc];rfl
     have hqe:zH q=.agg [.s p,.b q.is,.s q.data]:=by rw[←hc];rfl
     simp (disch:=omega) [zz,hlt',hgq,zL]
     (repeat with_reducible refine om ?_)
     refine hE _ _ (by simp) ?_
     simp (disch:=omega) [zz,hv,zGP,he1,hqe,AV.er,AV.ers,Tryz.f156]
    ·simp (disch:=omega) [zz,hlt',hg,zH,zL,hc]
     refine hN _ (k+1) ?_ ⟨by omega,fun i h hi=>?_⟩ (by omega)
     ·apply Le.of<;>simp[qU,qG,zL,K0]<;>try omega
     ·rcases Nat.lt_or_ge i k with h1|h1
      ·exact hno i h h1
      ·have:i=k:=by omega
       subst this;exact hc
   ·have hlt':¬(k:Int)<kn.length:=by omega
    have hfk:=zeq (l:=kn) (p:=p) fun i h=>hno i h (by omega)
    rw[hfk]at hv
    simp only at hv
    have he2:=zGn { s1 with stop:=⟨1,p,[],0⟩ }
    have h6:=zGp s1.wrote
    simp (disch:=omega) [zz,hlt',zL]
    refine hE _ _ (by simp) ?_
    simp (disch:=omega) [zz,K0]
    simp (disch:=omega) [zz,hv,zGP,K0,jG,kn0,zH,h6,h5,AV.er,AV.ers,Tryz.f156]
theorem zGs {t:Txt} {s:StV} (h:s.buf.length≤65536):(yP t s).buf.length≤65536:=by
 unfold yP
 split
 ·exact h
 ·simp only[List.length_append];omega
theorem zGM (kn:List KnV) (p:Txt) (s:StV):(y7 kn p s).1.buf=s.buf:=by
 unfold y7
 split
 ·rfl
 ·cases zQ kn p<;>(simp only;split<;>rfl)
theorem zGw {w:Txt} {rec:Txt→StV→List Txt→StV × List Txt} (hr:∀p s d,s.buf.length≤65536→(rec p s d).1.buf.length≤65536):∀(l:List Txt) (s:StV) (d:List Txt),s.buf.length≤65536→(ZS rec w l s d).1.buf.length≤65536
 | [],s,d,h=>h
 | x::r,s,d,h=>by
  rw[ZS]
  split
  ·exact h
  ·split
   ·split
    ·exact zGw hr r _ _ (zGs h)
    ·split
     ·exact zGw hr r _ _ h
     ·exact zGw hr r _ _ (hr _ _ _ h)
   ·exact zGw hr r _ _ (zGs h)
theorem zGN {kn:List KnV} {w:Txt}:∀(n:Nat) (p:Txt) (s:StV) (d:List Txt),s.buf.length≤65536→(zdm kn w n p s d).1.buf.length≤65536
 | 0,_,_,_,h=>h
 | n+1,p,s,d,h=>by
  have ha:=zGM kn p s
  rw[zdm]
  split
  ·rw[ha];exact h
  ·split
   ·show (y7 kn p s).1.buf.length≤65536
    rw[ha];exact h
   ·exact zGw (zGN n) _ _ _ (by rw[ha];exact h)
noncomputable def zGH (r:StV × List Txt):TV:=.tup [(StT,K0 r.1),(.slice 9,.sl .no (strs r.2))]
abbrev zIn:Cfg:=⟨fun _=>false,fun _=>false⟩
set_option maxHeartbeats 32000000 in
theorem zHy (env:List (Txt × Txt)) (kn:List KnV) (w:Txt) (hkn:kn.length≤1000000000) (hkd:∀k∈kn,k.data.length≤65536):∀(n:Nat) (p:Txt) (s:StV) (d:List Txt),CG s d→p∉d→501-d.length≤n→s.buf.length≤65536→
  PC Tryz.prog 158 [.av StT (K0 s),.av (.slice 57) (zL kn),.av .str (.s p),.av .str (.s w),.av (.slice 9) (.sl .no (strs d))] (zGH (zdm kn w n p s d))
 | 0,p,s,d,hi,hp,hn,hb=>by have:=hi.dlen;omega
 | n+1,p,s,d,hi,hp,hn,hb=>by
  have hk0:s.stop.kind=0:=by rw[hi.stop];rfl
  have hdl:=hi.dlen
  have h5:∀l:List Txt,AV.ers (strs l)=strs l:=fun l=>zjB l
  have h6:∀l:List DoV,(zGl l).er=zGl l:=zGp
  have hks:(zL kn).er=zL kn:=YO kn
  have hask:=zHQ s kn p (by have:=hi.len;omega) hkn
  unfold zGP at hask
  have hab:=zGM kn p s
  have hsc:zdm kn w (n+1) p s d=(if (y7 kn p s).1.stop.kind≠0 then((y7 kn p s).1,d++[p]) else if (y7 kn p s).2.is=false then(yZ 10 (y7 kn p s).1,d++[p]) else ZS (zdm kn w n) w (z7 (y7 kn p s).2.data) (y7 kn p s).1 (d++[p])):=rfl
  have hin:=zjM env kn p .tr ⟨[],s,d⟩ hk0 hi.len
  have hdat:(y7 kn p s).2.data.length≤65536:=by
   unfold y7
   split
   ·simp[kn0]
   ·cases hf:zQ kn p with
    | none=>simp[kn0]
    | some k=>exact hkd k (KP hf).1
  obtain⟨FIN,hFIN⟩:∃F,F=zdm kn w (n+1) p s d:=⟨_,rfl⟩
  rw[←hFIN]at hsc ⊢
  obtain⟨R,hR⟩:∃R,R=y7 kn p s:=⟨_,rfl⟩
  simp only[←hR]at hask hab hsc hdat
  have hin2:R.1.stop.kind=0→CG R.1 (d++[p]):=fun h0=>by
   rcases hin with⟨k,q1,q2,q3,q4,q5,q6,_⟩|⟨q1,_⟩
   ·rw[hR]
    refine⟨by rw[q3];exact hi.stop,?_,?_,q6⟩
    ·refine List.nodup_append.2 ⟨hi.nod,by simp,fun a ha c hc=>?_⟩
     rw[List.mem_singleton.1 hc]
     intro e
     exact hp (e▸ha)
    ·intro x hx
     rcases List.mem_append.1 hx with hx|hx
     ·exact q5 x (hi.sub x hx)
     ·rw[List.mem_singleton.1 hx];exact q4
   ·rw[hR]at h0;exact absurd h0 q1
  obtain⟨s1,k1⟩:=R
  simp only at hask hab hsc hdat hin2
  have hdp:strs d++[AV.s p]=strs (d++[p]):=by rw[Z6];rfl
  refine zow Tryz.func158 zIn fun imm0 w0=>?_
  simp (disch:=omega) [zz,K0]
  simp (disch:=omega) [zz,wB,hdp]
  (repeat with_reducible refine om ?_)
  refine qL hask rfl rfl (by simp) (by simp[qS,TV.er,AV.er,AV.ers,K0,jG,h5,h6,hks]) ?_
  have hes1:=zGn s1
  by_cases hk:s1.stop.kind=0
  rotate_left
  ·rw[if_pos hk]at hsc
   simp (disch:=omega) [zz,K0,jG,zH,hk]
   simp (disch:=omega) [zz,hsc,zGH,K0,jG,h5,h6,AV.er,AV.ers,Tryz.f158]
  rw[if_neg (by simp[hk])]at hsc
  by_cases hk1:k1.is=false
  ·have hf:=zGv s1 10
   have hfe:=zGn (yZ 10 s1)
   rw[if_pos hk1]at hsc
   simp (disch:=omega) [zz,K0,jG,zH,hk,hk1]
   refine qL hf rfl rfl (by simp) (by simp[qS,coC,TV.er,AV.er,AV.ers,K0,jG,h5,h6,hk]) ?_
   simp (disch:=omega) [zz,hsc,zGH,hfe,h5,AV.er,AV.ers,Tryz.f158]
  rw[if_neg hk1]at hsc
  have hk1':k1.is=true:=by simpa using hk1
  have hrl:=zyi k1.data (by omega)
  have hll:=ZE k1.data
  have hlm:∀x∈z7 k1.data,x.length≤65536:=fun x hx=>by
   rw[zy7]at hx
   have:=zxK k1.data x hx
   omega
  obtain⟨L,hL⟩:∃L,L=z7 k1.data:=⟨_,rfl⟩
  rw[←hL]at hrl hll hlm hsc
  simp (disch:=omega) [zz,K0,jG,zH,hk,hk1']
  refine zcv hrl ?_
  simp (disch:=omega) [zz]
  refine AT.loop' (α:=Nat × StV × List Txt) (fun x=>St.of [(1,.av (.slice 57) (zL kn)),(3,.av .str (.s w)),(4,.av (.slice 9) (.sl .no (strs x.2.2))),(5,.loc 5 []),(10,.loc 10 []),(13,.av (.slice 9) (.sl .no (strs L))),(14,.av (.int .i64) (.i .i64 x.1))] [(5,(StT,K0 x.2.1)),(10,(StT,.agg [.s [],.sl .full [],.sl .full [],.agg [.i .i64 0,.s [],.s [],.i .i64 0]]))] (fun _=>5) [])
   (fun x=>x.1≤L.length∧ZS (zdm kn w n) w (L.drop x.1) x.2.1 x.2.2=FIN∧x.2.1.buf.length≤65536∧(x.2.1.stop.kind=0→CG x.2.1 x.2.2∧501-x.2.2.length≤n)) (fun x=>L.length-x.1) (0,s1,d++[p]) ?_ ?_ ?_
  ·apply Le.of<;>simp[qU,qG,K0,jG,J5,zfd,zbn,zk8,leA,hk]<;>try omega
   all_goals (intro j;split<;>(try split)<;>(try split)<;>omega)
  ·exact⟨by omega,by rw[hsc];rfl,by rw[hab];exact hb,fun h=>⟨hin2 h,by simp only[List.length_append,List.length_singleton];omega⟩⟩
  rintro⟨i,s',d'⟩ ⟨hil,hfin,hbf,hinv⟩ KL hN hE
  simp only at hil hfin hbf hinv hN
  refine qM (cf:=zIn) laid mixed _ _ _ (by kernel_rfl) ?_
  have hes:=zGn s'
  by_cases hlt:i<L.length
  rotate_left
  ·have hlt':¬(i:Int)<L.length:=by omega
   rw[List.drop_eq_nil_of_le (by omega),ZS]at hfin
   simp (disch:=omega) [zz,hlt',qX]
   refine hE _ _ (by simp) ?_
   simp (disch:=omega) [zz,←hfin,zGH,hes,h5,AV.er,AV.ers,Tryz.f158]
  have hlt':(i:Int)<L.length:=by omega
  have hdr:L.drop i=L[i]::L.drop (i+1):=List.drop_eq_getElem_cons hlt
  rw[hdr,ZS]at hfin
  by_cases hk':s'.stop.kind=0
  rotate_left
  ·rw[if_pos hk']at hfin
   simp (disch:=omega) [zz,hlt',qX,K0,jG,hk']
   refine hE _ _ (by simp) ?_
   simp (disch:=omega) [zz,←hfin,zGH,K0,jG,h5,h6,AV.er,AV.ers,Tryz.f158]
  rw[if_neg (by simp[hk'])]at hfin
  obtain⟨hi',hn'⟩:=hinv hk'
  have hg:=yH L i hlt
  have hxl:=hlm _ (List.getElem_mem hlt)
  obtain⟨x,hx⟩:∃x,x=L[i]:=⟨_,rfl⟩
  rw[←hx]at hg hxl hfin
  have hwd:=zyh x (by omega)
  have hwe:∀y∈zR x,y.length≤65536:=fun y hy=>by
   have:=ZI hy
   have:=this.2;simp at this;omega
  have hwl:(zR x).length≤65537:=Nat.le_trans uI (by omega)
  obtain⟨ws,hws⟩:∃ws,ws=zR x:=⟨_,rfl⟩
  rw[←hws]at hwd hwe hwl hfin
  have hadd:=zGu s' (x++[10]) (by omega) (by simp;omega)
  have hadi:=zk6 (t:=x++[10]) hi'
  have hadb:=zGs (t:=x++[10]) hbf
  simp (disch:=omega) [zz,hlt',qX,K0,jG,hk',hg]
  refine zcv hwd ?_
  by_cases h2:ws.length=2
  rotate_left
  ·have h2':¬(ws.length:Int)=2:=by omega
   have hf2:ZS (zdm kn w n) w (L.drop (i+1)) (yP (x++[10]) s') d'=FIN:=by
    rcases ws with _|⟨a,_|⟨q,_|⟨z,l⟩⟩⟩
    ·exact hfin
    ·exact hfin
    ·exact absurd rfl h2
    ·exact hfin
   simp (disch:=omega) [zz,qX,h2',hlt,hlt',hg,K0]
   (repeat with_reducible refine om ?_)
   refine jC hadd rfl rfl (by simp) (by simp[qS,coC,TV.er,AV.er,AV.ers,K0,jG,h5,h6,hk']) ?_
   simp (disch:=omega) [zz]
   (repeat with_reducible refine om ?_)
   refine hN _ (i+1,yP (x++[10]) s',d') ?_ ⟨by simp only;omega,hf2,hadb,fun h=>⟨hadi.2 h,hn'⟩⟩ (by simp only;omega)
   apply Le.of<;>simp[qU,qG,qX]<;>try omega
  obtain⟨a,q,rfl⟩:∃a q,ws=[a,q]:=by
   rcases ws with _|⟨a,_|⟨q,_|⟨z,l⟩⟩⟩
   ·simp at h2
   ·simp at h2
   ·exact⟨a,q,rfl⟩
   ·simp at h2
  simp only at hfin
  have hs2:strs [a,q]=[.s a,.s q]:=rfl
  have hmy:=zl8 q (by have:=hwe q (by simp);omega)
  have hha:=zHS d' q (by have:=hi'.dlen;omega)
  by_cases haw:a=w
  rotate_left
  ·have hf2:ZS (zdm kn w n) w (L.drop (i+1)) (yP (x++[10]) s') d'=FIN:=by rw[if_pos (.inl haw)]at hfin;exact hfin
   simp (disch:=omega) [zz,hs2,qX,haw,hlt,hlt',hg,K0]
   (repeat with_reducible refine om ?_)
   refine jC hadd rfl rfl (by simp) (by simp[qS,coC,TV.er,AV.er,AV.ers,K0,jG,h5,h6,hk']) ?_
   simp (disch:=omega) [zz]
   (repeat with_reducible refine om ?_)
   refine hN _ (i+1,yP (x++[10]) s',d') ?_ ⟨by simp only;omega,hf2,hadb,fun h=>⟨hadi.2 h,hn'⟩⟩ (by simp only;omega)
   apply Le.of<;>simp[qU,qG,qX]<;>try omega
  have hwa:=haw.symm
  subst hwa
  simp (disch:=omega) [zz,hs2,qX]
  refine zcv hmy ?_
  cases hm:yV q with
  | false =>
   have hf2:ZS (zdm kn w n) w (L.drop (i+1)) (yP (x++[10]) s') d'=FIN:=by rw[if_pos (.inr hm)]at hfin;exact hfin
   simp (disch:=omega) [zz,qX,hlt,hlt',hg,K0]
   (repeat with_reducible refine om ?_)
   refine jC hadd rfl rfl (by simp) (by simp[qS,coC,TV.er,AV.er,AV.ers,K0,jG,h5,h6,hk']) ?_
   simp (disch:=omega) [zz]
   (repeat with_reducible refine om ?_)
   refine hN _ (i+1,yP (x++[10]) s',d') ?_ ⟨by simp only;omega,hf2,hadb,fun h=>⟨hadi.2 h,hn'⟩⟩ (by simp only;omega)
   apply Le.of<;>simp[qU,qG,qX]<;>try omega
  | true =>
   rw[if_neg (by simp[hm])]at hfin
   simp (disch:=omega) [zz]
   refine zcv hha ?_
   by_cases hqd:q∈d'
   ·rw[if_pos hqd]at hfin
    simp (disch:=omega) [zz,hqd]
    refine hN _ (i+1,s',d') ?_ ⟨by simp only;omega,hfin,hbf,fun h=>⟨hi',hn'⟩⟩ (by simp only;omega)
    apply Le.of<;>simp[qU,qG,K0,jG,hk']<;>try omega
   ·rw[if_neg hqd]at hfin
    have ih:=zHy env kn w hkn hkd n q s' d' hi' hqd hn' hbf
    have hsd:=zco (env:=env) (kn:=kn) (w:=w) n q s' d' [] hi' hqd hn'
    have hsb:=zGN (kn:=kn) (w:=w) n q s' d' hbf
    unfold zGH at ih
    obtain⟨R2,hR2⟩:∃R2,R2=zdm kn w n q s' d':=⟨_,rfl⟩
    rw[←hR2]at ih hsd hsb hfin
    obtain⟨s2,d2⟩:=R2
    simp only at ih hsb hfin
    simp (disch:=omega) [zz,hqd]
    (repeat with_reducible refine om ?_)
    refine jC ih rfl rfl (by simp) (by simp[qS,coC,TV.er,AV.er,AV.ers,K0,jG,h5,h6,hk',hks]) ?_
    simp (disch:=omega) [zz]
    (repeat with_reducible refine om ?_)
    refine hN _ (i+1,s2,d2) ?_ ⟨by simp only;omega,hfin,hsb,fun h=>⟨(hsd.go h).1,?_⟩⟩ (by simp only;omega)
    ·apply Le.of<;>simp[qU,qG,qX]<;>try omega
    ·have h1:=hsd.pre.length_le
     simp only[List.length_append,List.length_singleton]at h1
     show 501-d2.length≤n
     omega
end Go.Proofs.YtooipdkilgpojaaGreatDoor
end
