/- Commands of the document's tool. No condition beyond each theorem's own. -/
import Derived.Test.YtooipdkilgpojaaGreatDoorRWBToRWE
set_option linter.unusedSimpArgs false
set_option linter.unusedVariables false
set_option linter.unusedSectionVars false
set_option maxRecDepth 100000
/-! Commands of the document's tool. -/
namespace Go.Proofs.YtooipdkilgpojaaGreatDoor
open Go Go.Ab
open Classical
variable [Sel] [SelPow] [SelMax]

theorem zH5:∀l:Txt,(xP l).length≤l.length
 | []=>Nat.le_refl _
 | c::r=>by
  have:=zH5 r
  unfold xP
  split
  ·simp only[List.length_cons];omega
  ·exact Nat.le_refl _
theorem zHp (l:Txt):(V9 l).length≤l.length:=by
 have h1:=zH5 l
 have h2:=zaI (xP l)
 unfold V9
 rw[List.length_drop];omega
theorem zH6 {a b:List Txt} (h:a.Sublist b):(zfi a).length≤(zfi b).length:=by
 unfold zfi
 induction h with
 | slnil=>exact Nat.le_refl _
 | cons x _ ih=>simp only[List.flatMap_cons,List.length_append];omega
 | cons_cons x _ ih=>simp only[List.flatMap_cons,List.length_append];omega
theorem zGL:∀l:Txt,(zfi (zxI l)).length≤l.length+1
 | []=>by simp[zxI,zfi]
 | b::l=>by
  have ih:=zGL l
  unfold zfi at ih ⊢
  rw[zxI]
  split
  ·rw[List.flatMap_cons,List.length_append];simp only[List.nil_append,List.length_cons,List.length_nil];omega
  ·cases hl:zxI l with
   | nil=>simp
   | cons x r =>
    rw[hl]at ih
    simp only[List.flatMap_cons,List.length_append,List.length_cons,List.length_nil]at ih ⊢
    omega
theorem zGD (l:Txt):(zfi (z7 l)).length≤l.length+1:=by rw[zy7];exact zGL l
theorem zHn (l:Txt) (P:Txt→Bool):(zfi ((z7 l).filter P)).length≤l.length+1:=Nat.le_trans (zH6 List.filter_sublist) (zGD l)
theorem zHb {b:Txt} (h:b.length≤65536):(zfi (kK (z7 b))).length≤1000000000:=by
 have h1:(zfi (kK (z7 b))).length=(zfi (z7 b)).length:=(List.Perm.flatMap_right _ (W0 _)).length_eq
 have:=zGD b
 omega
theorem zHk {b:Txt} (h:b.length≤65536):(zfi (kF (z7 b))).length≤1000000000:=by
 have h1:=zH6 (zaN (z7 b))
 have:=zGD b
 omega
theorem zGY {b:Txt} (h:b.length≤65536):(b.map upB).length≤1000000000:=by rw[List.length_map];omega
theorem zGW {b:Txt} (h:b.length≤65536):(Lib.itoa (z7 b).length++[10]).length≤1000000000:=by
 have hL:=ZE b
 have hit:Lib.itoa ((z7 b).length:Int)=Lib.decDigits (z7 b).length:=by unfold Lib.itoa;rw[if_neg (by omega)];simp
 rw[hit]
 have:=zH9 (z7 b).length
 simp only[List.length_append,List.length_singleton]
 omega
set_option maxHeartbeats 16000000 in
theorem zHm (env:List (Txt × Txt)) (kn:List KnV) (line arg w:Txt) (s:StV) (h:zGy s env kn line) :
  PC Tryz.prog 118 (zGr s env kn line [jT,arg,w]) (.av StT (K0 (xT env kn line [jT,arg,w] s))):=by
 have hb:=h.buf
 have h5:∀l:List Txt,AV.ers (strs l)=strs l:=fun l=>zjB l
 have h6:∀l:List DoV,(zGl l).er=zGl l:=zGp
 have hks:(zL kn).er=zL kn:=YO kn
 have hk0:s.stop.kind=0:=by rw[h.inv.stop];rfl
 have hs0:strs []=[]:=rfl
 have hs1:∀x:Txt,strs [x]=[.s x]:=fun _=>rfl
 have hs2:∀x y:Txt,strs [x,y]=[.s x,.s y]:=fun _ _=>rfl
 have hs3:∀x y z:Txt,strs [x,y,z]=[.s x,.s y,.s z]:=fun _ _ _=>rfl
 have hv:xT env kn line [jT,arg,w] s=(zdm kn w 501 arg s []).1:=by
  unfold xT;simp only[List.getD_cons_zero,List.getD_cons_succ];rw[if_neg (by decide),if_pos trivial]
 obtain⟨FIN,hFIN⟩:∃F,F=xT env kn line [jT,arg,w] s:=⟨_,rfl⟩
 rw[←hFIN]at hv ⊢
 obtain⟨V,hV⟩:∃V,V=K0 FIN:=⟨_,rfl⟩
 rw[←hV]
 have hsc:=zHy env kn w h.kl h.dat 501 arg s [] h.inv.d (by simp) (by simp) hb
 unfold zGH at hsc
 obtain⟨R,hR⟩:∃R,R=zdm kn w 501 arg s []:=⟨_,rfl⟩
 rw[←hR]at hsc hv
 obtain⟨s1,d1⟩:=R
 simp only at hsc hv
 have he1:=zGn s1
 refine zow Tryz.func118 zGt fun imm0 w0=>?_
 simp (disch:=omega) [zz,K0,hs3,jT]
 (repeat with_reducible refine om ?_)
 refine jC hsc rfl rfl (by simp) (by simp[qS,coC,TV.er,AV.er,AV.ers,K0,jG,h5,h6,hks,hs0]) ?_
 simp (disch:=omega) [zz]
 (repeat with_reducible refine om ?_)
 simp (disch:=omega) [zz,hV,hv,he1,h5,Tryz.f118]
set_option maxHeartbeats 16000000 in
theorem zHa (env:List (Txt × Txt)) (kn:List KnV) (line:Txt) (s:StV) (ws:List Txt) (h:zGy s env kn line) :
  PC Tryz.prog 118 (zGr s env kn line (tText::ws)) (.av StT (K0 (xT env kn line (tText::ws) s))):=by
 have hb:=h.buf
 have h5:∀l:List Txt,AV.ers (strs l)=strs l:=fun l=>zjB l
 have h6:∀l:List DoV,(zGl l).er=zGl l:=zGp
 have hks:(zL kn).er=zL kn:=YO kn
 have hk0:s.stop.kind=0:=by rw[h.inv.stop];rfl
 have hs0:strs []=[]:=rfl
 have hs1:∀x:Txt,strs [x]=[.s x]:=fun _=>rfl
 have hs2:∀x y:Txt,strs [x,y]=[.s x,.s y]:=fun _ _=>rfl
 have hs3:∀x y z:Txt,strs [x,y,z]=[.s x,.s y,.s z]:=fun _ _ _=>rfl
 have hv:xT env kn line (tText::ws) s=yP (V9 line++[10]) s:=by
  unfold xT;simp only[List.getD_cons_zero];rw[if_neg (by decide),if_neg (by decide),if_pos trivial]
 obtain⟨FIN,hFIN⟩:∃F,F=xT env kn line (tText::ws) s:=⟨_,rfl⟩
 rw[←hFIN]at hv ⊢
 obtain⟨V,hV⟩:∃V,V=K0 FIN:=⟨_,rfl⟩
 rw[←hV]
 have hbh:=zHI line (by have:=h.ll;omega)
 have hbl:=zHp line
 have hll:=h.ll
 have hadd:=zGu s (V9 line++[10]) (by omega) (by simp;omega)
 have he1:=zGn (yP (V9 line++[10]) s)
 have hsc:strs (tText::ws)=.s tText::strs ws:=rfl
 refine zow Tryz.func118 zGt fun imm0 w0=>?_
 simp (disch:=omega) [zz,K0,hsc]
 simp (disch:=omega) [zz,tText]
 (repeat with_reducible refine om ?_)
 refine jC hbh rfl rfl (by simp) (by simp[qS,coC,TV.er,AV.er,AV.ers]) ?_
 simp (disch:=omega) [zz]
 (repeat with_reducible refine om ?_)
 refine jC hadd rfl rfl (by simp) (by simp[qS,coC,TV.er,AV.er,AV.ers,K0,jG,h5,h6,hks]) ?_
 simp (disch:=omega) [zz]
 (repeat with_reducible refine om ?_)
 simp (disch:=omega) [zz,hV,hv,he1,Tryz.f118]
set_option maxHeartbeats 16000000 in
theorem zHg (env:List (Txt × Txt)) (kn:List KnV) (line:Txt) (s:StV) (h:zGy s env kn line) :
  PC Tryz.prog 118 (zGr s env kn line [yR]) (.av StT (K0 (xT env kn line [yR] s))):=by
 have hb:=h.buf
 have h5:∀l:List Txt,AV.ers (strs l)=strs l:=fun l=>zjB l
 have h6:∀l:List DoV,(zGl l).er=zGl l:=zGp
 have hks:(zL kn).er=zL kn:=YO kn
 have hk0:s.stop.kind=0:=by rw[h.inv.stop];rfl
 have hs0:strs []=[]:=rfl
 have hs1:∀x:Txt,strs [x]=[.s x]:=fun _=>rfl
 have hs2:∀x y:Txt,strs [x,y]=[.s x,.s y]:=fun _ _=>rfl
 have hs3:∀x y z:Txt,strs [x,y,z]=[.s x,.s y,.s z]:=fun _ _ _=>rfl
 have hv:xT env kn line [yR] s=yZ 15 s:=by
  unfold xT;simp only[List.getD_cons_zero,List.getD_cons_succ];rw[if_neg (by decide),if_neg (by decide),if_neg (by decide),if_neg (by decide),if_pos trivial]
 obtain⟨FIN,hFIN⟩:∃F,F=xT env kn line [yR] s:=⟨_,rfl⟩
 rw[←hFIN]at hv ⊢
 obtain⟨V,hV⟩:∃V,V=K0 FIN:=⟨_,rfl⟩
 rw[←hV]
 have hf:=zGv s 15
 have he1:=zGn (yZ 15 s)
 refine zow Tryz.func118 zGt fun imm0 w0=>?_
 simp (disch:=omega) [zz,K0,hs1,yR]
 refine qL hf rfl rfl (by simp) (by simp[qS,coC,TV.er,AV.er,AV.ers,K0,jG,h5,h6,hks]) ?_
 simp (disch:=omega) [zz,hV,hv,he1,Tryz.f118]
set_option maxHeartbeats 16000000 in
theorem zHl (env:List (Txt × Txt)) (kn:List KnV) (line arg:Txt) (s:StV) (ha:arg.length≤1000000000) (h:zGy s env kn line) :
  PC Tryz.prog 118 (zGr s env kn line [kG,arg]) (.av StT (K0 (xT env kn line [kG,arg] s))):=by
 have hb:=h.buf
 have h5:∀l:List Txt,AV.ers (strs l)=strs l:=fun l=>zjB l
 have h6:∀l:List DoV,(zGl l).er=zGl l:=zGp
 have hks:(zL kn).er=zL kn:=YO kn
 have hk0:s.stop.kind=0:=by rw[h.inv.stop];rfl
 have hs0:strs []=[]:=rfl
 have hs1:∀x:Txt,strs [x]=[.s x]:=fun _=>rfl
 have hs2:∀x y:Txt,strs [x,y]=[.s x,.s y]:=fun _ _=>rfl
 have hs3:∀x y z:Txt,strs [x,y,z]=[.s x,.s y,.s z]:=fun _ _ _=>rfl
 have hv:xT env kn line [kG,arg] s=if ((z7 s.buf).filter fun x=>Lib.contains x arg)=[] then yZ 15 s else s:=by
  unfold xT;simp only[List.getD_cons_zero,List.getD_cons_succ];rw[if_neg (by decide),if_neg (by decide),if_neg (by decide),if_neg (by decide),if_neg (by decide),if_pos trivial]
 obtain⟨FIN,hFIN⟩:∃F,F=xT env kn line [kG,arg] s:=⟨_,rfl⟩
 rw[←hFIN]at hv ⊢
 obtain⟨V,hV⟩:∃V,V=K0 FIN:=⟨_,rfl⟩
 rw[←hV]
 have hL:=zGK hb
 have hrl:=zyi s.buf (by omega)
 have hkp:=zHt (z7 s.buf) arg (by have:=hL.n;omega) (fun x hx=>by have:=hL.e x hx;omega) ha
 have hkl:((z7 s.buf).filter fun x=>Lib.contains x arg).length≤(z7 s.buf).length:=List.length_filter_le _ _
 have hLn:=hL.n
 obtain⟨L,hLL⟩:∃L,L=z7 s.buf:=⟨_,rfl⟩
 rw[←hLL]at hrl hkp hkl hv hLn
 obtain⟨F,hF⟩:∃F,F=L.filter fun x=>Lib.contains x arg:=⟨_,rfl⟩
 rw[←hF]at hkp hkl hv
 have hf:=zGv s 15
 have he1:=zGn (yZ 15 s)
 have he2:=zGn s
 refine zow Tryz.func118 zGt fun imm0 w0=>?_
 simp (disch:=omega) [zz,K0,hs2,kG]
 (repeat with_reducible refine om ?_)
 refine jC hrl rfl rfl (by simp) (by simp[qS,coC,TV.er,AV.er,AV.ers]) ?_
 simp (disch:=omega) [zz,hs2]
 (repeat with_reducible refine om ?_)
 refine jC hkp rfl rfl (by simp) (by simp[qS,coC,TV.er,AV.er,AV.ers,h5]) ?_
 by_cases hn:F=[]
 ·rw[if_pos hn]at hv
  rw[hn]
  simp (disch:=omega) [zz,hs0]
  (repeat with_reducible refine om ?_)
  refine qL hf rfl rfl (by simp) (by simp[qS,coC,TV.er,AV.er,AV.ers,K0,jG,h5,h6,hks]) ?_
  simp (disch:=omega) [zz,hV,hv,he1,Tryz.f118]
 ·rw[if_neg hn]at hv
  have hn':¬(F.length:Int)=0:=by
   have:F.length≠0:=fun e=>hn (List.length_eq_zero_iff.1 e)
   omega
  simp (disch:=omega) [zz,qX,hn',hn]
  (repeat with_reducible refine om ?_)
  simp (disch:=omega) [zz,hV,hv,hk0,K0,jG,h5,h6,AV.er,AV.ers,Tryz.f118]
set_option maxHeartbeats 16000000 in
theorem zH7 (env:List (Txt × Txt)) (kn:List KnV) (line arg:Txt) (s:StV) (ha:arg.length≤1000000000) (h:zGy s env kn line) :
  PC Tryz.prog 118 (zGr s env kn line [wQ,arg]) (.av StT (K0 (xT env kn line [wQ,arg] s))):=by
 have hb:=h.buf
 have h5:∀l:List Txt,AV.ers (strs l)=strs l:=fun l=>zjB l
 have h6:∀l:List DoV,(zGl l).er=zGl l:=zGp
 have hks:(zL kn).er=zL kn:=YO kn
 have hk0:s.stop.kind=0:=by rw[h.inv.stop];rfl
 have hs0:strs []=[]:=rfl
 have hs1:∀x:Txt,strs [x]=[.s x]:=fun _=>rfl
 have hs2:∀x y:Txt,strs [x,y]=[.s x,.s y]:=fun _ _=>rfl
 have hs3:∀x y z:Txt,strs [x,y,z]=[.s x,.s y,.s z]:=fun _ _ _=>rfl
 have hv:xT env kn line [wQ,arg] s=yP (zfi ((z7 s.buf).filter fun x=>Lib.contains x arg)) { s with buf:=[] }:=by
  unfold xT;simp only[List.getD_cons_zero,List.getD_cons_succ];rw[if_neg (by decide),if_neg (by decide),if_neg (by decide),if_neg (by decide),if_neg (by decide),if_neg (by decide),if_pos trivial]
 obtain⟨FIN,hFIN⟩:∃F,F=xT env kn line [wQ,arg] s:=⟨_,rfl⟩
 rw[←hFIN]at hv ⊢
 obtain⟨V,hV⟩:∃V,V=K0 FIN:=⟨_,rfl⟩
 rw[←hV]
 have hL:=zGK hb
 have hrl:=zyi s.buf (by omega)
 have hkp:=zHt (z7 s.buf) arg (by have:=hL.n;omega) (fun x hx=>by have:=hL.e x hx;omega) ha
 have hkl:((z7 s.buf).filter fun x=>Lib.contains x arg).length≤(z7 s.buf).length:=List.length_filter_le _ _
 have hB:zHX ((z7 s.buf).filter fun x=>Lib.contains x arg):=⟨Nat.le_trans hkl hL.n,fun x hx=>hL.e x (List.mem_filter.1 hx).1⟩
 have hLn:=hL.n
 have hwh:(zfi ((z7 s.buf).filter fun x=>Lib.contains x arg)).length≤s.buf.length+1:=zHn _ _
 have hw:=zGE _ (by have:=hB.n;omega) hB.whole
 obtain⟨L,hLL⟩:∃L,L=z7 s.buf:=⟨_,rfl⟩
 rw[←hLL]at hrl hkp hkl hv hLn hB hw hwh
 obtain⟨F,hF⟩:∃F,F=L.filter fun x=>Lib.contains x arg:=⟨_,rfl⟩
 rw[←hF]at hkp hkl hv hw hB hwh
 have hadd:=zGu { s with buf:=[] } (zfi F) (by simp) (by omega)
 have he1:=zGn (yP (zfi F) { s with buf:=[] })
 refine zow Tryz.func118 zGt fun imm0 w0=>?_
 simp (disch:=omega) [zz,K0,hs2,wQ]
 (repeat with_reducible refine om ?_)
 refine jC hrl rfl rfl (by simp) (by simp[qS,coC,TV.er,AV.er,AV.ers]) ?_
 simp (disch:=omega) [zz,hs2]
 (repeat with_reducible refine om ?_)
 refine jC hkp rfl rfl (by simp) (by simp[qS,coC,TV.er,AV.er,AV.ers,h5]) ?_
 simp (disch:=omega) [zz]
 (repeat with_reducible refine om ?_)
 refine jC hw rfl rfl (by simp) (by simp[qS,coC,TV.er,AV.er,AV.ers,h5]) ?_
 simp (disch:=omega) [zz]
 (repeat with_reducible refine om ?_)
 refine qL hadd rfl rfl (by simp) (by simp[qS,coC,TV.er,AV.er,AV.ers,K0,jG,h5,h6,hks]) ?_
 simp (disch:=omega) [zz,hV,hv,he1,Tryz.f118]
set_option maxHeartbeats 16000000 in
theorem zHh (env:List (Txt × Txt)) (kn:List KnV) (line:Txt) (s:StV) (h:zGy s env kn line) :
  PC Tryz.prog 118 (zGr s env kn line [wP]) (.av StT (K0 (xT env kn line [wP] s))):=by
 have hb:=h.buf
 have h5:∀l:List Txt,AV.ers (strs l)=strs l:=fun l=>zjB l
 have h6:∀l:List DoV,(zGl l).er=zGl l:=zGp
 have hks:(zL kn).er=zL kn:=YO kn
 have hk0:s.stop.kind=0:=by rw[h.inv.stop];rfl
 have hs0:strs []=[]:=rfl
 have hs1:∀x:Txt,strs [x]=[.s x]:=fun _=>rfl
 have hs2:∀x y:Txt,strs [x,y]=[.s x,.s y]:=fun _ _=>rfl
 have hs3:∀x y z:Txt,strs [x,y,z]=[.s x,.s y,.s z]:=fun _ _ _=>rfl
 have hv:xT env kn line [wP] s=yP (zfi (kK (z7 s.buf))) { s with buf:=[] }:=by
  unfold xT cS;simp only[List.getD_cons_zero,List.getD_cons_succ];rw[if_neg (by decide),if_neg (by decide),if_neg (by decide),if_neg (by decide),if_neg (by decide),if_neg (by decide),if_neg (by decide),if_neg (by decide)];rw[if_pos trivial];rfl
 obtain⟨FIN,hFIN⟩:∃F,F=xT env kn line [wP] s:=⟨_,rfl⟩
 rw[←hFIN]at hv ⊢
 obtain⟨V,hV⟩:∃V,V=K0 FIN:=⟨_,rfl⟩
 rw[←hV]
 have ht:=zHj s.buf hb
 have hT:(zfi (kK (z7 s.buf))).length≤1000000000:=zHb hb
 obtain⟨T,hT0⟩:∃T,T=zfi (kK (z7 s.buf)):=⟨_,rfl⟩
 rw[←hT0]at ht hv hT
 have hadd:=zGu { s with buf:=[] } T (by simp) hT
 have he1:=zGn (yP T { s with buf:=[] })
 refine zow Tryz.func118 zGt fun imm0 w0=>?_
 simp (disch:=omega) [zz,K0,hs1,wP]
 (repeat with_reducible refine om ?_)
 refine jC ht rfl rfl (by simp) (by simp[qS,coC,TV.er,AV.er,AV.ers,wP]) ?_
 simp (disch:=omega) [zz]
 (repeat with_reducible refine om ?_)
 refine qL hadd rfl rfl (by simp) (by simp[qS,coC,TV.er,AV.er,AV.ers,K0,jG,h5,h6,hks]) ?_
 simp (disch:=omega) [zz,hV,hv,he1,Tryz.f118]
set_option maxHeartbeats 16000000 in
theorem zHe (env:List (Txt × Txt)) (kn:List KnV) (line:Txt) (s:StV) (h:zGy s env kn line) :
  PC Tryz.prog 118 (zGr s env kn line [y4]) (.av StT (K0 (xT env kn line [y4] s))):=by
 have hb:=h.buf
 have h5:∀l:List Txt,AV.ers (strs l)=strs l:=fun l=>zjB l
 have h6:∀l:List DoV,(zGl l).er=zGl l:=zGp
 have hks:(zL kn).er=zL kn:=YO kn
 have hk0:s.stop.kind=0:=by rw[h.inv.stop];rfl
 have hs0:strs []=[]:=rfl
 have hs1:∀x:Txt,strs [x]=[.s x]:=fun _=>rfl
 have hs2:∀x y:Txt,strs [x,y]=[.s x,.s y]:=fun _ _=>rfl
 have hs3:∀x y z:Txt,strs [x,y,z]=[.s x,.s y,.s z]:=fun _ _ _=>rfl
 have hv:xT env kn line [y4] s=yP (zfi (kF (z7 s.buf))) { s with buf:=[] }:=by
  unfold xT cS;simp only[List.getD_cons_zero,List.getD_cons_succ];rw[if_neg (by decide),if_neg (by decide),if_neg (by decide),if_neg (by decide),if_neg (by decide),if_neg (by decide),if_neg (by decide),if_neg (by decide)];rw[if_neg (by decide),if_pos trivial];rfl
 obtain⟨FIN,hFIN⟩:∃F,F=xT env kn line [y4] s:=⟨_,rfl⟩
 rw[←hFIN]at hv ⊢
 obtain⟨V,hV⟩:∃V,V=K0 FIN:=⟨_,rfl⟩
 rw[←hV]
 have ht:=zH8 s.buf hb
 have hT:(zfi (kF (z7 s.buf))).length≤1000000000:=zHk hb
 obtain⟨T,hT0⟩:∃T,T=zfi (kF (z7 s.buf)):=⟨_,rfl⟩
 rw[←hT0]at ht hv hT
 have hadd:=zGu { s with buf:=[] } T (by simp) hT
 have he1:=zGn (yP T { s with buf:=[] })
 refine zow Tryz.func118 zGt fun imm0 w0=>?_
 simp (disch:=omega) [zz,K0,hs1,y4]
 (repeat with_reducible refine om ?_)
 refine jC ht rfl rfl (by simp) (by simp[qS,coC,TV.er,AV.er,AV.ers,y4]) ?_
 simp (disch:=omega) [zz]
 (repeat with_reducible refine om ?_)
 refine qL hadd rfl rfl (by simp) (by simp[qS,coC,TV.er,AV.er,AV.ers,K0,jG,h5,h6,hks]) ?_
 simp (disch:=omega) [zz,hV,hv,he1,Tryz.f118]
set_option maxHeartbeats 16000000 in
theorem zGV (env:List (Txt × Txt)) (kn:List KnV) (line:Txt) (s:StV) (h:zGy s env kn line) :
  PC Tryz.prog 118 (zGr s env kn line [kV]) (.av StT (K0 (xT env kn line [kV] s))):=by
 have hb:=h.buf
 have h5:∀l:List Txt,AV.ers (strs l)=strs l:=fun l=>zjB l
 have h6:∀l:List DoV,(zGl l).er=zGl l:=zGp
 have hks:(zL kn).er=zL kn:=YO kn
 have hk0:s.stop.kind=0:=by rw[h.inv.stop];rfl
 have hs0:strs []=[]:=rfl
 have hs1:∀x:Txt,strs [x]=[.s x]:=fun _=>rfl
 have hs2:∀x y:Txt,strs [x,y]=[.s x,.s y]:=fun _ _=>rfl
 have hs3:∀x y z:Txt,strs [x,y,z]=[.s x,.s y,.s z]:=fun _ _ _=>rfl
 have hv:xT env kn line [kV] s=yP (s.buf.map upB) { s with buf:=[] }:=by
  unfold xT cS;simp only[List.getD_cons_zero,List.getD_cons_succ];rw[if_neg (by decide),if_neg (by decide),if_neg (by decide),if_neg (by decide),if_neg (by decide),if_neg (by decide),if_neg (by decide),if_neg (by decide)];rw[if_neg (by decide),if_neg (by decide),if_pos trivial]
 obtain⟨FIN,hFIN⟩:∃F,F=xT env kn line [kV] s:=⟨_,rfl⟩
 rw[←hFIN]at hv ⊢
 obtain⟨V,hV⟩:∃V,V=K0 FIN:=⟨_,rfl⟩
 rw[←hV]
 have ht:=zGX s.buf hb
 have hT:(s.buf.map upB).length≤1000000000:=zGY hb
 obtain⟨T,hT0⟩:∃T,T=s.buf.map upB:=⟨_,rfl⟩
 rw[←hT0]at ht hv hT
 have hadd:=zGu { s with buf:=[] } T (by simp) hT
 have he1:=zGn (yP T { s with buf:=[] })
 refine zow Tryz.func118 zGt fun imm0 w0=>?_
 simp (disch:=omega) [zz,K0,hs1,kV]
 (repeat with_reducible refine om ?_)
 refine jC ht rfl rfl (by simp) (by simp[qS,coC,TV.er,AV.er,AV.ers,kV]) ?_
 simp (disch:=omega) [zz]
 (repeat with_reducible refine om ?_)
 refine qL hadd rfl rfl (by simp) (by simp[qS,coC,TV.er,AV.er,AV.ers,K0,jG,h5,h6,hks]) ?_
 simp (disch:=omega) [zz,hV,hv,he1,Tryz.f118]
set_option maxHeartbeats 16000000 in
theorem zH1 (env:List (Txt × Txt)) (kn:List KnV) (line:Txt) (s:StV) (h:zGy s env kn line) :
  PC Tryz.prog 118 (zGr s env kn line [kY]) (.av StT (K0 (xT env kn line [kY] s))):=by
 have hb:=h.buf
 have h5:∀l:List Txt,AV.ers (strs l)=strs l:=fun l=>zjB l
 have h6:∀l:List DoV,(zGl l).er=zGl l:=zGp
 have hks:(zL kn).er=zL kn:=YO kn
 have hk0:s.stop.kind=0:=by rw[h.inv.stop];rfl
 have hs0:strs []=[]:=rfl
 have hs1:∀x:Txt,strs [x]=[.s x]:=fun _=>rfl
 have hs2:∀x y:Txt,strs [x,y]=[.s x,.s y]:=fun _ _=>rfl
 have hs3:∀x y z:Txt,strs [x,y,z]=[.s x,.s y,.s z]:=fun _ _ _=>rfl
 have hv:xT env kn line [kY] s=yP (Lib.itoa (z7 s.buf).length++[10]) { s with buf:=[] }:=by
  unfold xT cS;simp only[List.getD_cons_zero,List.getD_cons_succ];rw[if_neg (by decide),if_neg (by decide),if_neg (by decide),if_neg (by decide),if_neg (by decide),if_neg (by decide),if_neg (by decide),if_neg (by decide)];rw[if_neg (by decide),if_neg (by decide),if_neg (by decide),if_pos trivial]
 obtain⟨FIN,hFIN⟩:∃F,F=xT env kn line [kY] s:=⟨_,rfl⟩
 rw[←hFIN]at hv ⊢
 obtain⟨V,hV⟩:∃V,V=K0 FIN:=⟨_,rfl⟩
 rw[←hV]
 have ht:=zH0 s.buf hb
 have hT:(Lib.itoa (z7 s.buf).length++[10]).length≤1000000000:=zGW hb
 obtain⟨T,hT0⟩:∃T,T=Lib.itoa (z7 s.buf).length++[10]:=⟨_,rfl⟩
 rw[←hT0]at ht hv hT
 have hadd:=zGu { s with buf:=[] } T (by simp) hT
 have he1:=zGn (yP T { s with buf:=[] })
 refine zow Tryz.func118 zGt fun imm0 w0=>?_
 simp (disch:=omega) [zz,K0,hs1,kY]
 (repeat with_reducible refine om ?_)
 refine jC ht rfl rfl (by simp) (by simp[qS,coC,TV.er,AV.er,AV.ers,kY]) ?_
 simp (disch:=omega) [zz]
 (repeat with_reducible refine om ?_)
 refine qL hadd rfl rfl (by simp) (by simp[qS,coC,TV.er,AV.er,AV.ers,K0,jG,h5,h6,hks]) ?_
 simp (disch:=omega) [zz,hV,hv,he1,Tryz.f118]
end Go.Proofs.YtooipdkilgpojaaGreatDoor
