/- Keep: the program. No condition. -/
import Derived.Test.YtognnffjdckalaaGreatDoorKJ4ToKE1
set_option linter.unusedSimpArgs false
set_option linter.unusedVariables false
set_option linter.unusedSectionVars false
set_option maxHeartbeats 64000000
set_option maxRecDepth 100000
namespace Go.Proofs.YtognnffjdckalaaGreatDoor
open Go Go.Ab
open Classical
section
variable [Sel] [SelPow] [SelErr]
theorem CL (B M:Nat) (hBM:M≠B) (l:BlL) (d:Dig) :
  q6 Tryz.prog 42 [.av .ptr (.ptr B QW []),.av (q8 Tryz.prog 53) (qK d)] (q7.er (stB B M l)) fun r H'=>r=.tup [(.str,.s (((l.find? fun p=>decide (p.1=d)).map Prod.snd).getD [])),(.bool,.b (kE d l))]/\H'=stB B M l:=by
 rw[zew];exact zj9 B M hBM l (szB l) d
theorem zj0 (x:List UInt8) (hx:x.length<=1000000000):PC Tryz.prog 44 [.av (.slice 9) (.sl .no [.s [98,108,111,98],.s x])] (.av .str (.s (wX x))):=by
 have h:=vP (l:=[blobW,x]) (n:=1000000004) (by
                                           intro y hy
                                           simp only[List.mem_cons,List.not_mem_nil,or_false]at hy
                                           rcases hy with rfl|rfl
                                           ·simp[blobW]
                                           ·omega)
 simp only[List.length_cons,List.length_nil]at h
 exact zgZ [blobW,x] (by simp) (by omega)
theorem zjj (t:qD) (hd:TrD t):PC Tryz.prog 44 [.av (.slice 9) (.sl .no [.s [116,114,97,99,101],.s (WI t)])] (.av .str (.s (yS t))):=by
 have hb:=zfI hd
 have h:=vP (l:=[traceW,WI t]) (n:=6300000) (by
                                           intro y hy
                                           simp only[List.mem_cons,List.not_mem_nil,or_false]at hy
                                           rcases hy with rfl|rfl
                                           ·simp[traceW]
                                           ·omega)
 simp only[List.length_cons,List.length_nil]at h
 exact zgZ [traceW,WI t] (by simp) (by omega)
theorem zgk (l:List zV) (i:Nat) (h:i<l.length):wtO (l.take (i+1))=wtO (l.take i)+wtB l[i].data:=by
 rw[List.take_succ_eq_append_getElem h];simp only[wtO,List.map_append,List.sum_append,List.map_cons,List.map_nil,List.sum_cons,List.sum_nil,Nat.add_zero]
theorem zeb (l:List zV) (i:Nat):wtO (l.take i)<=wtO l:=by
 have:wtO (l.take i++l.drop i)=wtO (l.take i)+wtO (l.drop i):=by simp only[wtO,List.map_append,List.sum_append]
 rw[List.take_append_drop]at this;omega
abbrev zsv:Cfg:=⟨fun _=>false,fun n=>n==1000011||n==2000059||n==1000014||n==2000069||n==1000016||n==2000078||n==1000019||n==2000087⟩
theorem zfP (K B M:Nat) (a:KA) (k:KV) (N:Nat) (hk:ZB a k) (hI:ZA N k) (t:qD) (ht:TrW t) (hd:TrD t) (outs:List zV) (hol:outs.length<=1000000) (hod:∀f∈outs,f.data.length<=1000000000) (hN:N+(wtO outs+wtT t)<=1000000000) :
  q6 Tryz.prog 13 [.av .ptr (.ptr K KpT []),.av TrT (q5 t),.av (.slice 73) (zI outs)] (kpH K B M a k) fun r H'=>r=.av (.int .i64) (.i .i64 (w6 t outs k).2)/\KpR K B M (w6 t outs k).1 H':=by
 refine q6.nodup fun hnd=>?_
 have hne:=dP hnd
 have hby:=zcg ht.1 hd
 have hfe:(zI outs).er=zI outs:=by simp[zI,AV.er,AV.ers_eq,XS,Tok.k]
 have hte:(q5 t).er=q5 t:=QP t
 refine zov Tryz.func13 zsv fun imm0 w0=>?_
 simp (disch:=omega) [zz]
 refine YE hby rfl rfl (by simp) (by simp[q9,TV.er,hte]) ?_
 by_cases hc:qY t=0
 rotate_left
 ·have hb:wO t=.tup [(.str,.s []),(.int .i64,.i .i64 (qY t))]:=by unfold wO;rw[if_neg hc]
  have hkk:w6 t outs k=(k,qY t):=by unfold w6;rw[if_pos hc]
  rw[hb,hkk]
  simp (disch:=omega) [zz,hc,Tryz.f13,kA hk,KpR.of hk]
 have hmd:=zpX t outs (by have:=(Q3 hc).2;omega) (by omega) hod
 have hb:wO t=.tup [(.str,.s (WI t)),(.int .i64,.i .i64 0)]:=by unfold wO WI;rw[if_pos hc,if_pos hc]
 rw[hb]
 simp (disch:=omega) [zz]
 refine YE hmd rfl rfl (by simp) (by simp[q9,TV.er,hte,hfe]) ?_
 by_cases hm:t.outs=outs.map Q0
 rotate_left
 ·have hkk:w6 t outs k=(k,1):=by unfold w6;rw[if_neg (by simpa using hc),if_pos hm]
  rw[hkk]
  simp (disch:=omega) [zz,hm,Tryz.f13,kA hk,KpR.of hk]
 have hkk:w6 t outs k=if (qR outs k.j k.M.bl).2.2≠0 then(⟨(qR outs k.j k.M.bl).1,k.mo,⟨k.M.L,(qR outs k.j k.M.bl).2.1⟩⟩,(qR outs k.j k.M.bl).2.2) else
   if (addJ (yS t) (qR outs k.j k.M.bl).1).2≠0 then(⟨(addJ (yS t) (qR outs k.j k.M.bl).1).1,k.mo,⟨k.M.L,(qR outs k.j k.M.bl).2.1⟩⟩,(addJ (yS t) (qR outs k.j k.M.bl).1).2) else
   (⟨(addJ (yS t) (qR outs k.j k.M.bl).1).1,k.mo,⟨kU k.mo k.M.L t,(qR outs k.j k.M.bl).2.1⟩⟩,0):=by
  unfold w6;rw[if_neg (by simpa using hc),if_neg (by simpa using hm)]
 obtain⟨R,hR⟩:∃R,R=qR outs k.j k.M.bl:=⟨_,rfl⟩
 rw[<-hR]at hkk
 have hef:zI outs=.sl .no (outs.map zC):=rfl
 rw[hef]
 simp (disch:=omega) [zz,hm]
 refine AT.loop' (α:=Nat × JV × BlL × Bool) (fun x=>St.of [(0,.av .ptr (.ptr K KpT [])),(4,.loc 4 []),(7,.av .str (.s (WI t))),(29,.av (.slice 73) (.sl .no (outs.map zC))),(30,.av (.int .i64) (.i .i64 outs.length)),(31,.av (.int .i64) (.i .i64 x.1))] [(4,(TrT,q5 t))] (fun _=>0) (kpH K B M { a with o:=x.2.2.2 } ⟨x.2.1,k.mo,⟨k.M.L,x.2.2.1⟩⟩))
  (fun x=>x.1<=outs.length/\qR (outs.drop x.1) x.2.1 x.2.2.1=R/\wW k.mo (N+wtO (outs.take x.1)) ⟨k.M.L,x.2.2.1⟩/\kF (N+wtO (outs.take x.1)) x.2.1.d) (fun x=>outs.length-x.1) (0,k.j,k.M.bl,a.o) ?_ ?_ ?_
 ·apply Le.of<;>simp[le9]<;>try omega
 ·exact⟨by simp,by simpa using hR.symm,by simpa[wtO]using hI.mem,by simpa[wtO]using hI.of⟩
 rintro⟨i,j,bl,o⟩ ⟨hi,hko,hM,hD⟩ KL hN' hE
 simp only at hi hko hM hD hN'
 refine zrd zsv ?_
 have hg:=QM K B M { a with o:=o } ⟨j,k.mo,⟨k.M.L,bl⟩⟩
 by_cases hlt:i<outs.length
 ·have hlt':(i:Int)<outs.length:=by omega
  have hlt2:i<t.outs.length:=by rw[hm];simpa using hlt
  have hgf:=WP outs i hlt
  have hgm:=XJ t.outs i hlt2
  have htm:t.outs[i]=Q0 outs[i]:=by simp only[hm,List.getElem_map]
  rw[htm]at hgm
  have hwt:=zgk outs i hlt
  have hwl:=zeb outs (i+1)
  have hdl:=hod _ (List.getElem_mem hlt)
  have hdr:outs.drop i=outs[i]::outs.drop (i+1):=List.drop_eq_getElem_cons hlt
  obtain⟨f,hf⟩:∃f,f=outs[i]:=⟨_,rfl⟩
  rw[<-hf]at hgf hgm hwt hdl hdr
  obtain⟨fp,fd⟩:=f
  simp only at hwt hdl
  rw[hdr,qR]at hko
  simp only at hko
  simp (disch:=omega) [zz,hlt',hgf,hgm,zC,q5,qF,qS,Q0,hg]
  (repeat with_reducible refine om ?_)
  refine QQ (stB a.S a.T bl) ((K,kpO { a with o:=o })::(jH a.J B M o j++DbH a.D a.E k.mo a.cs)) (CY K B M { a with o:=o } ⟨j,k.mo,⟨k.M.L,bl⟩⟩) (CL a.S a.T hne.TS bl (sha fd)) rfl rfl (by simp) (by simp[q9,TV.er,AV.er]) ?_
  by_cases hh:kE (sha fd) bl=true
  ·rw[if_pos hh]at hko
   simp (disch:=omega) [zz,hh]
   (repeat with_reducible refine om ?_)
   refine hN' _ (i+1,j,bl,o) ?_ ⟨by simp only;omega,hko,by simp only;rw[hwt];exact hM.up (by omega),by simp only;rw[hwt];exact hD.up (by omega)⟩ (by simp only;omega)
   apply Le.of<;>simp[le9]<;>try omega
  ·have hh':kE (sha fd) bl=false:=by simpa using hh
   rw[if_neg hh]at hko
   have hrw:=zj0 fd hdl
   have hbw:wtB fd=12+(wX fd).length:=rfl
   have hdm:=hD.m
   simp (disch:=omega) [zz,hh',hg]
   (repeat with_reducible refine om ?_)
   refine j6.of [0,1,2,3,4,5,6,7,8,9] [] (by kernel_rfl) ?_
   simp (disch:=omega) [zz,hg]
   (repeat with_reducible refine om ?_)
   refine XF hrw rfl rfl (by simp) (by simp[q9,coC,TV.er,AV.er,AV.ers,Tok.k]) ?_
   simp (disch:=omega) [zz]
   (repeat with_reducible refine om ?_)
   refine zbm K B M { a with o:=o } ⟨j,k.mo,⟨k.M.L,bl⟩⟩ [] (by simp) (zjr a.J B M ⟨hne.MB,hne.JB,hne.JM⟩ (wX fd) o j hD.ok (by omega)) (by simp) (by simp[qH]) (by simp[q9,TV.er,AV.er]) fun o1=>?_
   have hD2:=hD.addJ (wX fd)
   obtain⟨j2,e2⟩:∃j2,j2=(addJ (wX fd) j).1:=⟨_,rfl⟩
   rw[<-e2]at hko hD2 |-
   have hk2:ZB { a with o:=o1 } ⟨j2,k.mo,⟨k.M.L,bl⟩⟩:=⟨hk.cels,hk.abs⟩
   by_cases he:(addJ (wX fd) j).2=0
   ·rw[if_pos he]at hko
    have hg2:=QM K B M { a with o:=o1 } ⟨j2,k.mo,⟨k.M.L,bl⟩⟩
    have hsz:szB bl<=1000000000000:=by
     have:=vR bl
     have:=hM.le
     simp only at this
     omega
    simp (disch:=omega) [zz,he,hg2]
    refine j6.of [0,1,2,3,4,5,6] [] (by kernel_rfl) ?_
    simp (disch:=omega) [zz,hg2]
    (repeat with_reducible refine om ?_)
    refine U9 K B M { a with o:=o1 } ⟨j2,k.mo,⟨k.M.L,bl⟩⟩ [] (by simp) (zfv a.S a.T hne.TS bl hsz fd hdl) (by simp) (by simp[qH]) (by simp[q9,TV.er,AV.er]) ?_
    simp (disch:=omega) [zz]
    refine hN' _ (i+1,j2,kY (sha fd) fd bl,o1) ?_ ⟨by simp only;omega,hko,by simp only;rw[hwt];exact(hM.put fd).up (by omega),by simp only;rw[hwt];exact hD2.up (by omega)⟩ (by simp only;omega)
    apply Le.of<;>simp[le9]<;>try omega
   ·rw[if_neg he]at hko
    rw[<-hko]at hkk
    rw[if_pos (by simpa using he)]at hkk
    simp (disch:=omega) [zz,he]
    refine hE _ _ (by simp) ?_
    simp (disch:=omega) [zz,hkk,Tryz.f13,kA hk2,KpR.of hk2]
 ·have hlt':¬(i:Int)<outs.length:=by omega
  have hd0:outs.drop i=[]:=List.drop_of_length_le (by omega)
  rw[hd0,qR]at hko
  rw[<-hko]at hkk
  rw[if_neg (by simp)]at hkk
  simp only at hkk
  have hrw:=zjj t hd
  have hwt:wtT t=12+(yS t).length:=rfl
  have hwl:=zeb outs i
  have hdm:=hD.m
  simp (disch:=omega) [zz,hlt']
  refine hE _ _ (by simp) ?_
  simp (disch:=omega) [zz,hg]
  refine j6.of [0,1,2,3,4,5,6,7,8] [] (by kernel_rfl) ?_
  simp (disch:=omega) [zz,hg]
  (repeat with_reducible refine om ?_)
  refine XF hrw rfl rfl (by simp) (by simp[q9,coC,TV.er,AV.er,AV.ers,Tok.k]) ?_
  simp (disch:=omega) [zz]
  (repeat with_reducible refine om ?_)
  refine zbm K B M { a with o:=o } ⟨j,k.mo,⟨k.M.L,bl⟩⟩ [] (by simp) (zjr a.J B M ⟨hne.MB,hne.JB,hne.JM⟩ (yS t) o j hD.ok (by omega)) (by simp) (by simp[qH]) (by simp[q9,TV.er,AV.er]) fun o1=>?_
  obtain⟨j2,e2⟩:∃j2,j2=(addJ (yS t) j).1:=⟨_,rfl⟩
  rw[<-e2]at hkk |-
  have hk2:ZB { a with o:=o1 } ⟨j2,k.mo,⟨k.M.L,bl⟩⟩:=⟨hk.cels,hk.abs⟩
  by_cases he:(addJ (yS t) j).2=0
  ·rw[if_neg (by simpa using he)]at hkk
   have hg2:=QM K B M { a with o:=o1 } ⟨j2,k.mo,⟨k.M.L,bl⟩⟩
   have hda:=zfn t ht.1 k.mo hI.lo hI.hi a.D a.E a.cs hk.cels
   rw[hk.abs,hc]at hda
   simp (disch:=omega) [zz,he,hg2]
   refine j6.of [0,1,2,3,4,5,6] [] (by kernel_rfl) ?_
   simp (disch:=omega) [zz,hg2]
   (repeat with_reducible refine om ?_)
   refine zdg K B M { a with o:=o1 } ⟨j2,k.mo,⟨k.M.L,bl⟩⟩ hk2 [] (by simp) hda (by simp) (by simp[qH]) (by simp[q9,TV.er,AV.er,hte]) fun cs' hk3=>?_
   simp (disch:=omega) [zz,hkk,Tryz.f13,kA hk3,KpR.of hk3]
  ·rw[if_pos (by simpa using he)]at hkk
   simp (disch:=omega) [zz,he,hkk,Tryz.f13,kA hk2,KpR.of hk2]
theorem C5 (q:Dig) (mo:Nat) (D E:Nat) (cs:List Cel) (hcs:∀c∈cs,dN c) :
  q6 Tryz.prog 65 [.av .ptr (.ptr D DbT []),.av (q8 Tryz.prog 53) (qK q)] (q7.er (DbH D E mo cs)) fun r H'=>r=.av (.slice 56) (qU (getD (Z4 cs) q))/\H'=DbH D E mo cs:=by
 rw[zdY hcs];exact zoR q mo D E cs hcs
theorem zaq (K B M:Nat) (a:KA) (k:KV) (hk:ZB a k) (q:Dig) :
  q6 Tryz.prog 25 [.av .ptr (.ptr K KpT []),.av (q8 Tryz.prog 53) (qK q)] (kpH K B M a k) fun r H'=>r=.av (.slice 56) (qU (getD k.M.L q))/\H'=kpH K B M a k:=by
 have hg:=QM K B M a k
 have hof:=C5 q k.mo a.D a.E a.cs hk.cels
 rw[hk.abs]at hof
 refine zov Tryz.func25 cf0 fun imm0 w0=>?_
 simp (disch:=omega) [zz,-List.reduceReplicate,hg]
 (repeat with_reducible refine om ?_)
 refine QQ (DbH a.D a.E k.mo a.cs) ((K,kpO a)::(jH a.J B M a.o k.j++stB a.S a.T k.M.bl)) (d9 K B M a k) hof rfl rfl (by simp) (by simp[q9,TV.er,AV.er]) ?_
 simp (disch:=omega) [zz,-List.reduceReplicate,Tryz.f25,kA hk]
theorem zcc (K B M:Nat) (a:KA) (k:KV) (hk:ZB a k) (hTS:a.T≠a.S) (q:Dig) :
  q6 Tryz.prog 23 [.av .ptr (.ptr K KpT []),.av (q8 Tryz.prog 53) (qK q)] (kpH K B M a k) fun r H'=>r=.tup [(.str,.s (((k.M.bl.find? fun p=>decide (p.1=q)).map Prod.snd).getD [])),(.bool,.b (kE q k.M.bl))]/\H'=kpH K B M a k:=by
 have hg:=QM K B M a k
 refine zov Tryz.func23 cf0 fun imm0 w0=>?_
 simp (disch:=omega) [zz,-List.reduceReplicate,hg]
 (repeat with_reducible refine om ?_)
 refine QQ (stB a.S a.T k.M.bl) ((K,kpO a)::(jH a.J B M a.o k.j++DbH a.D a.E k.mo a.cs)) (CY K B M a k) (CL a.S a.T hTS k.M.bl q) rfl rfl (by simp) (by simp[q9,TV.er,AV.er]) ?_
 simp (disch:=omega) [zz,-List.reduceReplicate,Tryz.f23,kA hk]
theorem dX {s:St} {dst:Option Nat} {X:St->Prop} {args:List TV} (K B M:Nat) (a:KA) (k:KV) (hk:ZB a k) (hL:k.M.L.length<=1000000) (h32:∀p∈k.M.L,p.1.length=32) (rest:q7) (hH:s.H.Perm (kpH K B M a k++rest)) (ha:args.all qH=true)
  (hx:q9 (args.map TV.er) [.av .ptr (.ptr a.D DbT [])]) (hX:X (({ s with H:=s.H }:St).put dst (.av DgS (kD (yB (k.M.L.map Prod.fst)))))):kL Tryz.prog s (.av .func (.fn 64 [])) args dst X:=by
 have hcl:a.cs.map (·.key)=k.M.L.map Prod.fst:=by rw[<-hk.abs];simp[Z4,Function.comp_def]
 have hlen:a.cs.length=k.M.L.length:=by rw[<-hk.abs];simp[Z4]
 have hkeys:=zkF a.D a.E k.mo a.cs (by omega) (fun c hc=>by
  have:c.key∈k.M.L.map Prod.fst:=by rw[<-hcl];exact List.mem_map.2 ⟨c,hc,rfl⟩
  obtain⟨p,hp,e⟩:=List.mem_map.1 this
  rw[<-e];exact h32 p hp)
 have hpm:=hH.trans (by rw[<-List.append_assoc];exact List.Perm.append_right rest (d9 K B M a k):(kpH K B M a k++rest).Perm (DbH a.D a.E k.mo a.cs++(((K,kpO a)::(jH a.J B M a.o k.j++stB a.S a.T k.M.bl))++rest)))
 refine qM (DbH a.D a.E k.mo a.cs) _ hpm rfl ha (by simp) (R:=fun r H'=>r=.av DgS (kD (yB (k.M.L.map Prod.fst)))/\H'=DbH a.D a.E k.mo a.cs) ?_ ?_
 ·rw[zdY hk.cels]
  refine q6.args (hkeys.mono ?_) (by simpa using hx)
  rintro r H' ⟨ks',h1,rfl,rfl⟩
  rw[zd6 h1,hcl]
  exact⟨rfl,rfl⟩
 rintro r' H' ⟨rfl,rfl⟩ _
 exact⟨s.H,HSub.of_perm hpm.symm,hX⟩
theorem vY (l:List Dig) (k:Nat) (h:k<l.length):(l.map qK)[k]?=some (qK l[k]):=by simp[List.getElem?_eq_getElem h]
theorem zcG (K B M:Nat) (a:KA) (k:KV) (hk:ZB a k) (hL:k.M.L.length<=1000000) (h32:∀p∈k.M.L,p.1.length=32) (hrow:∀q,(getD k.M.L q).length<=8) :
  q6 Tryz.prog 24 [.av .ptr (.ptr K KpT [])] (kpH K B M a k) fun r H'=>r=.tup [(.int .i64,.i .i64 (((yB (k.M.L.map Prod.fst)).map fun q=>(getD k.M.L q).length).sum:Nat)),(.int .i64,.i .i64 (szB k.M.bl))]/\H'=kpH K B M a k:=by
 have hg:=QM K B M a k
 obtain⟨ks,hks⟩:∃ks,ks=yB (k.M.L.map Prod.fst):=⟨_,rfl⟩
 have hkl:ks.length<=1000000:=by
  rw[hks,(y9 _).1.length_eq];simpa using hL
 have hed:kD ks=.sl .no (ks.map qK):=rfl
 obtain⟨f,hf⟩:∃f:Dig->Nat,f=fun q=>(getD k.M.L q).length:=⟨_,rfl⟩
 have hf8:∀q,f q<=8:=fun q=>by rw[hf];exact hrow q
 have hsum:∀i,((ks.take i).map f).sum<=8*i:=by
  intro i
  induction i with
  | zero=>simp
  | succ i ih =>
   by_cases hi:i<ks.length
   ·rw[List.take_succ_eq_append_getElem hi,List.map_append,List.sum_append]
    have:=hf8 ks[i]
    simp only[List.map_cons,List.map_nil,List.sum_cons,List.sum_nil]
    omega
   ·rw[List.take_of_length_le (by omega)]
    rw[List.take_of_length_le (by omega)]at ih
    omega
 refine zov Tryz.func24 cf0 fun imm0 w0=>?_
 simp (disch:=omega) [zz,hg]
 refine dX K B M a k hk hL h32 [] (by simp) (by simp[qH]) (by simp[q9,TV.er,AV.er]) ?_
 rw[<-hks,<-hf,hed]
 simp (disch:=omega) [zz]
 refine AT.loop' (α:=Nat) (fun i=>St.of [(0,.av .ptr (.ptr K KpT [])),(4,.av (.int .i64) (.i .i64 (((ks.take i).map f).sum:Nat))),(11,.av DgS (.sl .no (ks.map qK))),(12,.av (.int .i64) (.i .i64 ks.length)),(13,.av (.int .i64) (.i .i64 i))] [] (fun _=>0) (kpH K B M a k))
  (fun i=>i<=ks.length) (fun i=>ks.length-i) 0 ?_ ?_ ?_
 ·apply Le.of<;>simp[le9]<;>try omega
 ·simp
 rintro i hi KL hN hE
 refine zrd cf0 ?_
 by_cases hlt:i<ks.length
 ·have hlt':(i:Int)<ks.length:=by omega
  have hgk:=vY ks i hlt
  have hof:=C5 ks[i] k.mo a.D a.E a.cs hk.cels
  rw[hk.abs]at hof
  have hts:((ks.take (i+1)).map f).sum=((ks.take i).map f).sum+f ks[i]:=by
   rw[List.take_succ_eq_append_getElem hlt,List.map_append,List.sum_append];simp only[List.map_cons,List.map_nil,List.sum_cons,List.sum_nil,Nat.add_zero]
  have hs1:=hsum i
  have hs2:=hf8 ks[i]
  have hfl:f ks[i]=(getD k.M.L ks[i]).length:=by rw[hf]
  obtain⟨q,hq⟩:∃q,q=ks[i]:=⟨_,rfl⟩
  rw[<-hq]at hgk hof hts hs2 hfl
  have het:qU (getD k.M.L q)=.sl .no (trs (getD k.M.L q)):=rfl
  have htl:(trs (getD k.M.L q)).length=f q:=by rw[XN,hfl]
  obtain⟨S,hS⟩:∃S,S=((ks.take i).map f).sum:=⟨_,rfl⟩
  rw[<-hS]at hts hs1 |-
  have hqe:=vZ q
  obtain⟨Q,hQ⟩:∃Q,Q=qK q:=⟨_,rfl⟩
  rw[<-hQ]at hgk hof hqe
  simp (disch:=omega) [zz,hlt',hgk,hg]
  (repeat with_reducible refine om ?_)
  refine QQ (DbH a.D a.E k.mo a.cs) ((K,kpO a)::(jH a.J B M a.o k.j++stB a.S a.T k.M.bl)) (d9 K B M a k) hof rfl rfl (by simp) (by simp[q9,TV.er,AV.er,hqe]) ?_
  rw[het]
  simp (disch:=omega) [zz,htl]
  (repeat with_reducible refine om ?_)
  have hts3:((List.take (i+1) (List.map f ks)).sum:Int)=(S:Int)+(f q:Int):=by rw[<-List.map_take,hts];omega
  refine hN _ (i+1) ?_ (by omega) (by omega)
  apply Le.of<;>simp[le9,hts3]<;>try omega
 ·have hlt':¬(i:Int)<ks.length:=by omega
  have htk:ks.take i=ks:=List.take_of_length_le (by omega)
  rw[htk]
  simp (disch:=omega) [zz,hlt']
  refine hE _ _ (by simp) ?_
  simp (disch:=omega) [zz,hg]
  refine U9 K B M a k [] (by simp) (znD a.S a.T k.M.bl) (by simp) (by simp[qH]) (by simp[q9,TV.er,AV.er]) ?_
  simp (disch:=omega) [zz,Tryz.f24,kA hk]
abbrev zt2:Cfg:=⟨fun _=>false,fun n=>n==1000005||n==2000042⟩
theorem zmM (K B M:Nat) (a:KA) (k:KV) (hk:ZB a k) (hm:1<=k.mo) (hm8:k.mo<=8) (hs:szB k.M.bl<=1000000000000) (x:List UInt8) (hx:x.length<=1000000000) :
  q6 Tryz.prog 29 [.av .ptr (.ptr K KpT []),.av .str (.s x)] (kpH K B M a k) fun r H'=>r=.av (.int .i64) (.i .i64 (zQ k.mo x k.M).2)/\KpR K B M ⟨k.j,k.mo,(zQ k.mo x k.M).1⟩ H':=by
 have htx:=zgG x hx
 have htl:=vE x
 refine q6.sub (R:=fun r H'=>r=.av (.int .i64) (.i .i64 (zQ k.mo x k.M).2)/\∃H'',HSub H'' H'/\KpR K B M ⟨k.j,k.mo,(zQ k.mo x k.M).1⟩ H'') ?_ (fun r H' ⟨h1,H'',h2,h3⟩ _=>⟨H'',h2,h1,h3⟩)
 refine zov Tryz.func29 zt2 fun imm0 w0=>?_
 simp (disch:=omega) [zz]
 refine fun b hb=>zcv htx ?_
 have hgb:∀v,zU ((b,v)::kpH K B M a k) b=some v:=fun v=>by simp[zU]
 have hend:∀v (k2:KV) (a2:KA),ZB a2 k2->∃H'',HSub H'' ((b,v)::kpH K B M a2 k2)/\KpR K B M k2 H'':=fun v k2 a2 h2=>⟨_,HSub.of_sub (List.sublist_cons_self _ _),KpR.of h2⟩
 by_cases he:(kO x).2=0
 ·rcases hl:(kO x).1 with _|⟨w,_|⟨s,_|⟨s2,l⟩⟩⟩
  ·have hlv:zQ k.mo x k.M=(k.M,3):=by unfold zQ;rw[if_neg (by simpa using he),hl]
   simp (disch:=omega) [zz,zW,he,hl,hlv,qG,Tryz.f29,kA hk,hend _ k a hk]
  ·have hlv:zQ k.mo x k.M=(k.M,3):=by unfold zQ;rw[if_neg (by simpa using he),hl]
   simp (disch:=omega) [zz,zW,he,hl,hlv,qG,Tryz.f29,kA hk,hend _ k a hk]
  ·have hsl:s.length<=1000000000:=by have:=htl.1 s (by rw[hl];simp);omega
   by_cases hwb:w=blobW
   ·subst hwb
    have hlv:zQ k.mo x k.M=(⟨k.M.L,kY (sha s) s k.M.bl⟩,0):=by unfold zQ;rw[if_neg (by simpa using he),hl];rfl
    simp (disch:=omega) [zz,zW,he,hl,qG,blobW]
    refine j6.of [0,1,2,3,4,5,6,7,8,9] [] (by kernel_rfl) ?_
    simp (disch:=omega) [zz]
    (repeat with_reducible refine om ?_)
    refine YA (R:=fun r H'=>r=.av (.int .i64) (.i .i64 0)/\KpR K B M ⟨k.j,k.mo,⟨k.M.L,kY (sha s) s k.M.bl⟩⟩ H') (kpH K B M a k) [(b,_)] (List.perm_append_comm (l₁:=[_])) rfl (by simp[qH]) (by simp) ?_ ?_
    ·rw[kA hk]
     simpa[TV.er,AV.er]using zlX K B M a k hk hs s hsl
    rintro r' H' ⟨rfl,a2,hk2,rfl⟩ _
    refine⟨(b,_)::kpH K B M a2 _,HSub.of_perm (List.perm_append_comm (l₂:=[_])),?_⟩
    simp (disch:=omega) [zz,hlv,Tryz.f29,kA hk2,hend _ _ a2 hk2]
   ·by_cases hwt:w=traceW
    ·subst hwt
     have hlv:zQ k.mo x k.M=(if (jJ s).2=0 then(⟨kU k.mo k.M.L (jJ s).1,k.M.bl⟩,0) else(k.M,(jJ s).2)):=by unfold zQ;rw[if_neg (by simpa using he),hl];simp only[if_neg hwb,if_true]
     have hlv2:(zQ k.mo x k.M).2=(jJ s).2/\(⟨k.j,k.mo,(zQ k.mo x k.M).1⟩:KV)=(if (jJ s).2=0 then⟨k.j,k.mo,⟨kU k.mo k.M.L (jJ s).1,k.M.bl⟩⟩ else k):=by
      rw[hlv];split
      ·rename_i h;exact⟨h.symm,rfl⟩
      ·exact⟨rfl,rfl⟩
     simp (disch:=omega) [zz,zW,he,hl,qG,traceW]
     refine j6.of [0,1,2,3,4,5,6,7,8,9] [] (by kernel_rfl) ?_
     simp (disch:=omega) [zz]
     (repeat with_reducible refine om ?_)
     refine YA (R:=fun r H'=>r=.av (.int .i64) (.i .i64 (jJ s).2)/\KpR K B M (if (jJ s).2=0 then⟨k.j,k.mo,⟨kU k.mo k.M.L (jJ s).1,k.M.bl⟩⟩ else k) H') (kpH K B M a k) [(b,_)] (List.perm_append_comm (l₁:=[_])) rfl (by simp[qH]) (by simp) ?_ ?_
     ·rw[kA hk]
      simpa[TV.er,AV.er]using zjB K B M a k hk hm hm8 s hsl
     rintro r' H' ⟨rfl,a2,hk2,rfl⟩ _
     refine⟨(b,_)::kpH K B M a2 _,HSub.of_perm (List.perm_append_comm (l₂:=[_])),?_⟩
     have he2:=kA (K:=K) (B:=B) (M:=M) hk2
     have hen2:=fun v=>hend v _ a2 hk2
     rw[<-hlv2.2]at he2 hen2 |-
     simp (disch:=omega) [zz,hlv2.1,Tryz.f29,he2,hen2]
    ·have hlv:zQ k.mo x k.M=(k.M,3):=by unfold zQ;rw[if_neg (by simpa using he),hl];simp[hwb,hwt]
     have hwb':¬[98,108,111,98]=w:=fun e=>hwb (by rw[<-e];rfl)
     have hwt':¬[116,114,97,99,101]=w:=fun e=>hwt (by rw[<-e];rfl)
     simp (disch:=omega) [zz,zW,he,hl,hlv,qG,hwb',hwt',Tryz.f29,kA hk,hend _ k a hk]
  ·have hlv:zQ k.mo x k.M=(k.M,3):=by unfold zQ;rw[if_neg (by simpa using he),hl]
   have hlen:(qG (kO x).1).length=l.length+3:=by rw[hl];simp[qG]
   have hne:¬((l.length:Int)+3=2):=by omega
   simp (disch:=omega) [zz,zW,he,hlen,hne,hlv,Tryz.f29,kA hk,hend _ k a hk]
 ·have hlv:zQ k.mo x k.M=(k.M,3):=by unfold zQ;rw[if_pos he]
  simp (disch:=omega) [zz,zW,he,hlv,Tryz.f29,kA hk,hend _ k a hk]
theorem za6 {mo:Nat} (l:List (List UInt8)) (x:MV) (i:Nat) (h:i<l.length) (h0:(zH mo (l.take i) x).2=0) :
  ((zQ mo l[i] (zH mo (l.take i) x).1).2=0->zH mo (l.take (i+1)) x=zQ mo l[i] (zH mo (l.take i) x).1)/\((zQ mo l[i] (zH mo (l.take i) x).1).2≠0->(zH mo l x).2=(zQ mo l[i] (zH mo (l.take i) x).1).2):=by
 have e0:zH mo (l.take i) x=((zH mo (l.take i) x).1,0):=by rw[<-h0]
 refine⟨fun hz=>?_,fun hz=>?_⟩
 ·rw[List.take_succ_eq_append_getElem h,WN e0,zH,if_pos hz,zH,<-hz]
 ·have e:l=l.take i++(l[i]::l.drop (i+1)):=by rw[<-List.drop_eq_getElem_cons h,List.take_append_drop]
  conv=>lhs;rw[e]
  rw[WN e0,zH,if_neg hz]
def XQ (B M:Nat) (x:DV × Option KV × Int) (r:TV) (H':q7):Prop :=
 (x.2.1=none/\x.2.2≠0/\r=.tup [(.ptr,.nilptr),(.int .i64,.i .i64 x.2.2)]/\J2 B M x.1 H')\/
 (∃k K,x.2.1=some k/\r=.tup [(.ptr,.ptr K KpT []),(.int .i64,.i .i64 0)]/\KpR K B M k H')
theorem XQ.bad {B M:Nat} {o:Bool} {x:DV × Option KV × Int} {r:TV} {H':q7} (h:x.2.1=none) (h2:x.2.2≠0) (hr:r=.tup [(.ptr,.nilptr),(.int .i64,.i .i64 x.2.2)]) (hH:H'=zA B M o x.1):XQ B M x r H':=.inl ⟨h,h2,hr,by rw[hH];exact J2.of⟩
theorem zde (l:List (List UInt8)) (i:Nat) (h:i<l.length):wtR (l.take i)+(12+l[i].length)<=wtR l:=by
 have e:l=l.take i++(l[i]::l.drop (i+1)):=by rw[<-List.drop_eq_getElem_cons h,List.take_append_drop]
 conv=>rhs;rw[e]
 simp only[wtR,List.map_append,List.sum_append,List.map_cons,List.sum_cons]
 omega
theorem zqR (K B M:Nat) (a:KA) (k:KV):HSub (zA B M a.o k.j.d) (kpH K B M a k) :=
 ⟨_,zj4 K B M a k,by
  unfold jH
  exact(List.sublist_append_left (zA B M a.o k.j.d) _).cons _⟩
abbrev ztu:Cfg:=⟨fun n=>n==35,fun _=>false⟩
theorem zeR (B M:Nat) (hBM:M≠B) (o:Bool) (d:DV) (mo:Int) (N:Nat) (hN:N<=1000000000) (hd:kF N d) :
  q6 Tryz.prog 7 [.av .ptr (.ptr B QI []),.av (.int .i64) (.i .i64 mo)] (zA B M o d) (XQ B M (kQ mo d)):=by
 refine q6.sub (R:=fun r H'=>∃H2,Ab.HSub H2 H'/\XQ B M (kQ mo d) r H2) ?_ (fun r H' ⟨H2,h2,h3⟩ _=>⟨H2,h2,h3⟩)
 have hz1:=hd.m
 have hz2:=hd.n
 obtain⟨hj1,hj2⟩:=hd.openJ
 refine zov Tryz.func7 ztu fun imm0 w0=>?_
 simp (disch:=omega) [zz]
 by_cases hmo:mo<1\/8<mo
 ·have ho:kQ mo d=(d,none,2):=by unfold kQ;rw[if_pos hmo]
  refine zcv (zn7 mo hmo) ?_
  rw[ho]
  simp (disch:=omega) [zz,Tryz.f7]
  exact⟨_,HSub.refl _,XQ.bad rfl (by simp) rfl rfl⟩
 obtain⟨m,hm⟩:∃m:Nat,m=mo.toNat:=⟨_,rfl⟩
 have hmm:mo=(m:Int):=by omega
 have ho:kQ mo d=if (openJ d).2.1≠0 then((openJ d).1,none,(openJ d).2.1) else if (zH m (openJ d).2.2 ⟨[],[]⟩).2≠0 then((openJ d).1,none,(zH m (openJ d).2.2 ⟨[],[]⟩).2) else((openJ d).1,some ⟨⟨(openJ d).1,false⟩,m,(zH m (openJ d).2.2 ⟨[],[]⟩).1⟩,0):=by unfold kQ;rw[if_neg hmo,<-hm]
 obtain⟨X,hX⟩:∃X,X=kQ mo d:=⟨_,rfl⟩
 rw[<-hX]at ho |-
 subst hmm
 have hm1:1<=m:=by omega
 have hm8:m<=8:=by omega
 refine qM [] (zA B M o d) (List.Perm.refl _) rfl (by simp[qH]) (by simp) (R:=fun r H'=>∃D E,r=.tup [(.ptr,.ptr D DbT []),(.int .i64,.i .i64 0)]/\H'=DbH D E m []) ?_ ?_
 ·simpa[TV.er,AV.er,q7.er_nil]using znC m hm1 hm8
 rintro r' H' ⟨D,E,rfl,rfl⟩ hnd
 refine⟨_,HSub.refl _,?_⟩
 simp (disch:=omega) [zz]
 refine qM (zA B M o d) (DbH D E m []) List.perm_append_comm rfl (by simp[qH]) (by simp) (R:=W6 B M (openJ d)) ?_ ?_
 ·rw[JG]
  exact q6.args (znd B M hBM o d hd.ok (by omega) (by omega)) (by simp[q9,TV.er,AV.er,nmK])
 obtain⟨⟨d',e,l⟩,hj⟩:∃x,openJ d=x:=⟨_,rfl⟩
 rw[hj]at hj1 hj2 ho |-
 simp only at hj1 hj2 ho
 rintro r' H' hR hnd2
 rcases hR with⟨he,rfl,o1,rfl⟩|⟨he,J,hJB,hJM,rfl,o1,rfl⟩
 ·simp only at he
  refine⟨_,HSub.refl _,?_⟩
  rw[if_pos he]at ho
  simp (disch:=omega) [zz,he,Tryz.f7]
  exact⟨zA B M o1 d',HSub.of_sub (List.sublist_append_left _ _),XQ.bad (by rw[ho]) (by rw[ho];exact he) (by rw[ho]) (by rw[ho])⟩
 simp only at he
 subst he
 refine⟨_,HSub.refl _,?_⟩
 simp (disch:=omega) [zz]
 refine qM [] (jH J B M o1 ⟨d',false⟩++DbH D E m []) (List.Perm.refl _) rfl (by simp[qH]) (by simp) (R:=fun r H'=>∃S T,T≠S/\r=.av .ptr (.ptr S QW [])/\H'=stB S T []) ?_ ?_
 ·simpa[TV.er,AV.er,q7.er_nil,stB,szB]using zoH
 rintro r' H' ⟨S,T,hTS,rfl,rfl⟩ hnd3
 refine⟨jH J B M o1 ⟨d',false⟩++(DbH D E m []++stB S T []),HSub.of_perm (by rw[<-List.append_assoc];exact List.perm_append_comm (l₁:=stB S T []) (l₂:=jH J B M o1 ⟨d',false⟩++DbH D E m [])),?_⟩
 rw[if_neg (by simp)]at ho
 simp (disch:=omega) [zz]
 intro K hK0 hK1 hK2
 obtain⟨L,hL⟩:∃L:Nat->MV × Int,L=fun i=>zH m (l.take i) ⟨[],[]⟩:=⟨_,rfl⟩
 have hL0:L 0=(⟨[],[]⟩,0):=by rw[hL];rfl
 have hLn:L l.length=zH m l ⟨[],[]⟩:=by rw[hL];simp
 rw[<-hLn]at ho
 refine AT.loop' (α:=Nat × KA) (fun x=>St.of [(10,.av .ptr (.ptr K KpT [])),(36,.av StS (.sl .no (qG l))),(37,.av (.int .i64) (.i .i64 l.length)),(38,.av (.int .i64) (.i .i64 x.1))] [] (fun _=>0) (kpH K B M x.2 ⟨⟨d',false⟩,m,(L x.1).1⟩))
  (fun x=>x.1<=l.length/\(L x.1).2=0/\ZB x.2 ⟨⟨d',false⟩,m,(L x.1).1⟩) (fun x=>l.length-x.1) (0,⟨J,D,E,S,T,o1,[]⟩) ?_ ?_ ?_
 ·apply Le.of<;>simp[le9,kpH,hL0,kpO]<;>try omega
 ·refine⟨by simp,by rw[hL0],⟨by simp,by rw[hL0];rfl⟩⟩
 rintro⟨i,a⟩ ⟨hi,hl0,hka⟩ KL hN hE
 simp only at hi hl0 hka hN
 refine zrd cf0 ?_
 by_cases hlt:i<l.length
 ·have hlt':(i:Int)<l.length:=by omega
  have hgn:=KC l i hlt
  have hlen:=(zde l i hlt)
  have hll:=V0 l
  have hinv:=wW.loads (mo:=m) hm1 wW.nil (l:=l.take i) (y:=(L i).1) (by rw[<-hl0,hL])
  have hsz:=vR (L i).1.bl
  have hle:=hinv.le
  have hst:=za6 (mo:=m) l ⟨[],[]⟩ i hlt (by rw[hL]at hl0;exact hl0)
  have hLi:∀i,zH m (l.take i) ⟨[],[]⟩=L i:=fun i=>by rw[hL]
  rw[hLi,hLi,<-hLn]at hst
  obtain⟨x,hx⟩:∃x,x=l[i]:=⟨_,rfl⟩
  rw[<-hx]at hgn hlen hst
  have hld:=zmM K B M a ⟨⟨d',false⟩,m,(L i).1⟩ hka hm1 hm8 (by simp only;omega) x (by omega)
  simp (disch:=omega) [zz,hlt',hgn]
  refine qM (kpH K B M a ⟨⟨d',false⟩,m,(L i).1⟩) [] (by simp) rfl (by simp[qH]) (by simp) (R:=fun r H'=>r=.av (.int .i64) (.i .i64 (zQ m x (L i).1).2)/\KpR K B M ⟨⟨d',false⟩,m,(zQ m x (L i).1).1⟩ H') ?_ ?_
  ·rw[kA hka]
   simpa[TV.er,AV.er]using hld
  rintro r' H' ⟨rfl,a2,hk2,rfl⟩ _
  refine⟨_,by rw[List.append_nil];exact HSub.refl _,?_⟩
  by_cases hz:(zQ m x (L i).1).2=0
  ·have hst1:=hst.1 hz
   rw[<-hst1]at hk2 hz |-
   simp (disch:=omega) [zz,hz]
   refine hN _ (i+1,a2) ?_ ⟨by simp only;omega,hz,hk2⟩ (by simp only;omega)
   apply Le.of<;>simp[le9]<;>try omega
  ·have hst2:=hst.2 hz
   rw[if_pos (by rw[hst2];exact hz),hst2]at ho
   simp (disch:=omega) [zz,hz]
   refine hE _ _ (by simp) ?_
   simp (disch:=omega) [zz,Tryz.f7,kA hk2]
   exact⟨_,zqR K B M a2 _,XQ.bad (o:=a2.o) (by rw[ho]) (by rw[ho];exact hz) (by rw[ho]) (by rw[ho])⟩
 ·have hie:i=l.length:=by omega
  subst hie
  have hlt':¬(l.length:Int)<l.length:=by omega
  rw[if_neg (by rw[hl0];simp)]at ho
  simp (disch:=omega) [zz,hlt']
  refine hE _ _ (by simp) ?_
  simp (disch:=omega) [zz,Tryz.f7,kA hka]
  exact⟨_,HSub.refl _,.inr ⟨_,K,by rw[ho],rfl,KpR.of hka⟩⟩
end
end Go.Proofs.YtognnffjdckalaaGreatDoor
