/- The buffer is turned into another one: count, upper. No condition. -/
import Derived.Test.YtfkcpballfhddaaGreatDoorKT4ToKT5
set_option linter.unusedSimpArgs false
set_option linter.unusedVariables false
set_option linter.unusedSectionVars false
set_option maxRecDepth 100000
namespace Go.Proofs.YtfkcpballfhddaaGreatDoor
open Go Go.Ab
open Classical
variable [Sel] [SelPow] [SelMax]
theorem zhb (R:Nat) (arg:Txt) (ws:List Txt) (v:AV) (rowH:q8) (hrow:KM ws v rowH) (hn:ws.length<=1000000000) (ta ea:AV) (buf:Txt) (K:Nat) (asks:Txt) (waits:Bool) (over:DoV) (h1:ta.erk=ta) (h2:ea.erk=ea) :
  q7 Tryz.prog 149 [.av .ptr (.ptr R wH []),.av .str (.s z7),.av .str (.s arg),.av (.slice 9) v] ((R,qP ta ea buf K asks waits over)::rowH) fun r H'=>r=.tup []/\H'=[(R,qP ta ea (Lib.itoa ws.length++[10]) K asks waits over)]:=by
 obtain⟨hrer,hver⟩:=hrow.er
 have heo:=JR (ta:=ta) (ea:=ea) (buf:=buf) (K:=K) (asks:=asks) (waits:=waits) (over:=over) h1 h2
 have hle:=JR (ta:=ta) (ea:=ea) (buf:=Lib.itoa ws.length++[10]) (K:=K) (asks:=asks) (waits:=waits) (over:=over) h1 h2
 have hil:(Lib.itoa (ws.length:Int)).length<=21:=Lib.itoa_length_le _ (by omega) (by omega)
 refine q7.sub (R:=fun y H'=>y=.tup []/\∃H2,Ab.HSub H2 H'/\H2=[(R,qP ta ea (Lib.itoa ws.length++[10]) K asks waits over)]) ?_ fun y H' ⟨h1,H2,h2,h3⟩ _=>⟨H2,h2,h1,h3⟩
 have hio:=zoV (ws.length:Int) (by omega) (by omega)
 rcases hrow with⟨hw,hv,hH⟩|⟨T,cap,j,hj,hv,hc,hH⟩
 ·subst hw hv hH
  refine zov Tryz.func149 zhs fun imm0 w0=>?_
  simp (disch:=omega) [zz,z7]
  intro b nb
  have nb':¬R=b:=fun e=>nb e.symm
  refine qG hio rfl rfl (by simp) (by simp[qM,coC,TV.er,AV.er]) ?_
  simp (disch:=omega) [zz,qP,nb,nb']
  (repeat with_reducible refine om ?_)
  simp (disch:=omega) [zz,Tryz.f149,h1,h2,jX,qP,nb,nb']
  have hil0:(Lib.itoa 0).length<=21:=Lib.itoa_length_le 0 (by omega) (by omega)
  exact⟨by omega,HSub.of_sub (List.sublist_cons_self _ _)⟩
 ·subst hv hH
  refine zov Tryz.func149 zhs fun imm0 w0=>?_
  simp (disch:=omega) [zz,z7]
  intro b nb nb2
  have nb':¬R=b:=fun e=>nb e.symm
  have nb2':¬T=b:=fun e=>nb2 e.symm
  refine qG hio rfl rfl (by simp) (by simp[qM,coC,TV.er,AV.er]) ?_
  simp (disch:=omega) [zz,qP,nb,nb2,nb',nb2']
  (repeat with_reducible refine om ?_)
  simp (disch:=omega) [zz,Tryz.f149,h1,h2,jX,qP,nb,nb2,nb',nb2']
  exact HSub.of_sub ((List.Sublist.cons_cons _ (List.nil_sublist _)).cons _)
abbrev gN (buf:Txt) (k:Nat):Txt:=(buf.take k).map upB++buf.drop k
theorem zmq (buf:Txt) (k:Nat):(gN buf k).length=buf.length:=by simp[gN];omega
theorem zlj {buf:Txt} {k:Nat} (h:k<buf.length):(gN buf k).set k (upB buf[k])=gN buf (k+1):=by
 unfold gN
 have hl:((buf.take k).map upB).length=k:=by simp;omega
 rw[List.set_append_right _ _ (by omega),hl,Nat.sub_self,List.drop_eq_getElem_cons h,List.set_cons_zero,List.take_succ_eq_append_getElem h,List.map_append,List.append_assoc]
 rfl
theorem zfm {buf:Txt} {k:Nat} (h:k<buf.length):(gN buf k)[k]?=some buf[k]:=by
 unfold gN
 have hl:((buf.take k).map upB).length=k:=by simp;omega
 rw[List.getElem?_append_right (by omega),hl,Nat.sub_self,List.drop_eq_getElem_cons h];rfl
theorem zif (R:Nat) (arg:Txt) (ws:List Txt) (v:AV) (rowH:q8) (hrow:KM ws v rowH) (ta ea:AV) (buf:Txt) (hb:buf.length<=1000000) (K:Nat) (asks:Txt) (waits:Bool) (over:DoV) (h1:ta.erk=ta) (h2:ea.erk=ea) :
  q7 Tryz.prog 149 [.av .ptr (.ptr R wH []),.av .str (.s qY),.av .str (.s arg),.av (.slice 9) v] ((R,qP ta ea buf K asks waits over)::rowH) fun r H'=>r=.tup []/\H'=[(R,qP ta ea (buf.map upB) K asks waits over)]:=by
 obtain⟨hrer,hver⟩:=hrow.er
 have hle:=JR (ta:=ta) (ea:=ea) (buf:=buf.map upB) (K:=K) (asks:=asks) (waits:=waits) (over:=over) h1 h2
 refine q7.sub (R:=fun y H'=>y=.tup []/\∃H2,Ab.HSub H2 H'/\H2=[(R,qP ta ea (buf.map upB) K asks waits over)]) ?_ fun y H' ⟨h1,H2,h2,h3⟩ _=>⟨H2,h2,h1,h3⟩
 refine zov Tryz.func149 zhs fun imm0 w0=>?_
 simp (disch:=omega) [zz,qY]
 intro b nb nb2
 have nb':¬R=b:=fun e=>nb e.symm
 simp (disch:=omega) [zz,qP,nb,nb']
 intro q cap q1 q2 q3 hcap
 have q1':¬b=q:=fun e=>q1 e.symm
 have q2':¬R=q:=fun e=>q2 e.symm
 have hbl:(buf.length:Int)<=1000000:=by omega
 refine AT.loop' (α:=Nat) (fun k=>St.of [(0,.av .ptr (.ptr R wH [])),(8,.av (.slice 5) (.msl q 5 0 buf.length cap)),(32,.av (.slice 5) (.msl q 5 0 buf.length cap)),(33,.av (.int .i64) (.i .i64 buf.length)),(34,.av (.int .i64) (.i .i64 k))] [] (fun _=>0) ((q,.var (.arr cap 5) (.agg (bys (gN buf k)++List.replicate (cap-buf.length) (.i .u8 0))))::(b,.var .str (.s arg))::(R,qP ta ea buf K asks waits over)::rowH))
  (fun k=>k<=buf.length) (fun k=>buf.length-k) 0 ?_ ?_ ?_
 ·apply Le.of<;>simp[zA,qF,bys,gN,qP]
 ·omega
 rintro k hk KL hN hE
 refine zrd zhs ?_
 by_cases hlt:k<buf.length
 ·have hlt':(k:Int)<buf.length:=by omega
  have hul:=zmq buf k
  have hg:(bys (gN buf k)++List.replicate (cap-buf.length) (AV.i .u8 0))[k]?=some (.i .u8 buf[k].toNat):=by
   rw[List.getElem?_append_left (by simp[hul];exact hlt),bys,List.getElem?_map,zfm hlt];rfl
  have hst:∀c:UInt8,(bys (gN buf k)++List.replicate (cap-buf.length) (AV.i .u8 0)).set k (.i .u8 c.toNat)=bys ((gN buf k).set k c)++List.replicate (cap-buf.length) (.i .u8 0):=by
   intro c
   rw[List.set_append_left _ _ (by simp[hul];exact hlt),bys,bys,List.map_set]
  have hnx:=zlj hlt
  have hsame:¬(97<=buf[k].toNat/\buf[k].toNat<=122)->gN buf (k+1)=gN buf k:=by
   intro hn
   rw[<-hnx]
   have:upB buf[k]=buf[k]:=by unfold upB;rw[if_neg hn]
   rw[this]
   have hgt:=List.getElem?_eq_some_iff.1 (zfm hlt)
   obtain⟨h9,h8⟩:=hgt
   rw[<-h8]
   exact List.set_getElem_self _
  have hup:(97<=buf[k].toNat/\buf[k].toNat<=122)->(upB buf[k]).toNat=buf[k].toNat-32:=by
   intro hn
   unfold upB;rw[if_pos hn]
   rw[UInt8.toNat_sub_of_le _ _ (by rw[UInt8.le_iff_toNat_le];show 32<=_;omega)];rfl
  obtain⟨c,hc⟩:∃c,c=buf[k]:=⟨_,rfl⟩
  rw[<-hc]at hg hnx hsame hup
  have hc8:c.toNat<256:=c.toNat_lt
  by_cases hlo:97<=c.toNat
  ·have hlo':(97:Int)<=c.toNat:=by omega
   by_cases hhi:c.toNat<=122
   ·have hhi':(c.toNat:Int)<=122:=by omega
    have hw:IntKind.u8.wrap ((c.toNat:Int)-32)=((upB c).toNat:Int):=by
     rw[hup ⟨hlo,hhi⟩]
     simp only[IntKind.wrap,IntKind.signed,IntKind.bits];simp;omega
    simp (disch:=omega) [zz,hlt',hlt,hg,hlo',hhi',hw,hst,hnx,q1,q2,q1',q2',nb,nb']
    refine hN _ (k+1) ?_ (by omega) (by omega)
    apply Le.of<;>simp[zA,qF,qJ]<;>try omega
   ·have hhi':¬(c.toNat:Int)<=122:=by omega
    have hs:=hsame (by omega)
    simp (disch:=omega) [zz,hlt',hlt,hg,hlo',hhi',q1,q2,q1',q2',nb,nb']
    refine hN _ (k+1) ?_ (by omega) (by omega)
    apply Le.of<;>simp[zA,qF,hs]<;>try omega
  ·have hlo':¬(97:Int)<=c.toNat:=by omega
   have hs:=hsame (by omega)
   simp (disch:=omega) [zz,hlt',hlt,hg,hlo',q1,q2,q1',q2',nb,nb']
   refine hN _ (k+1) ?_ (by omega) (by omega)
   apply Le.of<;>simp[zA,qF,hs]<;>try omega
 ·have hkl:k=buf.length:=by omega
  subst hkl
  have hfin:gN buf buf.length=buf.map upB:=by simp[gN]
  have hbo:bytesOf ((bys (buf.map upB)++List.replicate (cap-buf.length) (AV.i .u8 0)).take buf.length)=some (buf.map upB):=by
   rw[List.take_left' (by simp)];exact xZ _
  simp (disch:=omega) [zz,q1,q2,q1',q2',nb,nb']
  refine hE _ _ (by simp) ?_
  simp (disch:=omega) [zz,hfin,hbo,qP,h1,h2,jX,q1,q2,q1',q2',nb,nb']
  exact⟨by omega,HSub.of_sub (((List.Sublist.cons_cons _ (List.nil_sublist _)).cons _).cons _)⟩
end Go.Proofs.YtfkcpballfhddaaGreatDoor
