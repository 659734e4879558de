/- The program's SHA-256 of two parts, the first of which is short. No condition beyond each theorem's own. -/
import Derived.Test.YtcioeonlclpacaaGreatDoorS3ToS8
import Derived.Test.YtcioeonlclpacaaGreatDoorAbSl
import Derived.Test.YtcioeonlclpacaaGreatDoorB0
import Derived.Test.YtcioeonlclpacaaGreatDoorP8ToBSa
set_option linter.unusedSimpArgs false
set_option linter.unusedVariables false
set_option linter.unusedSectionVars false
section
set_option maxRecDepth 100000
namespace Go.Proofs.YtcioeonlclpacaaGreatDoor
open Go Go.Ab
open Classical
variable [Sel]
abbrev zSL:Cfg:=⟨fun n=>n==3,fun n=>n==2⟩
noncomputable def zJp (B:Nat) (s:List UInt32) (op:AV) (n:Nat):HObj:=.var U0 (.agg [.agg (s.map w6),op,.i .u64 n])
theorem zPC:q7 Tryz.prog 159 [] [] fun r H'=>∃B,r=.av .ptr (.ptr B U0 [])∧H'=[(B,zJp B h8 .nsl 0)]:=by
 refine zov Tryz.func159 zSL fun imm0 w0=>?_
 simp (disch:=omega) [zz]
 refine qL zjO rfl rfl (by simp) (by simp[qS]) ?_
 simp (disch:=omega) [zz]
 intro B
 simp (disch:=omega) [zz,Tryz.f159]
 simp[zJp,AV.erks_eq,Function.comp_def,AV.erk]
abbrev zPe:Cfg:=⟨fun _=>false,fun n=>n==39||n==22⟩
noncomputable def u8O (cap:Nat) (l:List UInt8) (j:Nat):HObj:=.var (.arr cap 5) (.agg (l.map K3++List.replicate j (.i .u8 0)))
theorem zQy (cap:Nat) (l:List UInt8) (j:Nat):(u8O cap l j).er=u8O cap l j:=by
 simp only[u8O,HObj.er_var,AV.erk,AV.erks_eq,List.map_append,List.map_map,Function.comp_def,List.map_replicate]
theorem zRs (cap:Nat) (l:List UInt8) (j:Nat):AV.erks (l.map K3++List.replicate j (.i .u8 0))=l.map K3++List.replicate j (.i .u8 0):=by
 simp only[AV.erk,AV.erks_eq,List.map_append,List.map_map,Function.comp_def,List.map_replicate]
theorem zNi (b m:Nat) (e:TypeId) (xs:List AV):∀l:List UInt32,CY b m e xs (l.map w6)=l.map w6
 | []=>by simp[CY]
 | x::l=>by simp[CY,fzA,zNi b m e xs l]
def zL0 (B:Nat) (l:List UInt8) (H:q8):Prop:=∃b cap,b≠B∧l.length≤cap∧H.Perm [(B,zJp B h8 (.msl b 5 0 l.length cap) l.length),(b,u8O cap l (cap-l.length))]
set_option maxHeartbeats 4000000 in
theorem zPw (B:Nat) (l:List UInt8) (h0:0<l.length) (hl:l.length<64) :
  q7 Tryz.prog 160 [.av .ptr (.ptr B U0 []),.av .str (.s l)] [(B,zJp B h8 .nsl 0)] fun r H'=>r=.tup []∧zL0 B l H':=by
 refine zov Tryz.func160 zPe fun imm0 w0=>?_
 simp (disch:=omega) [zz,zJp,zei]
 refine⟨by omega,fun h=>(by rw[h]at h0;simp at h0),fun _ b cap hb hc=>?_⟩
 have hb':¬B=b:=fun e=>hb e.symm
 simp (disch:=omega) [zz,hb,hb']
 refine AT.loop' (α:=Unit) (fun _=>St.of [(0,.av .ptr (.ptr B U0 []))] [] (fun _=>0) [(b,u8O cap l (cap-l.length)),(B,zJp B h8 (.msl b 5 0 l.length cap) l.length)])
  (fun _=>True) (fun _=>0) () ?_ trivial ?_
 ·apply Le.of<;>simp[qU,qG,qO,qH,qP,qK,qF,qI,qJ,qN,zJp,u8O,hb,hb']<;>try omega
 rintro _ _ KL hN hE
 have hl':¬(64:Int)≤l.length:=by omega
 have hpr:zL0 B l [(b,u8O cap l (cap-l.length)),(B,zJp B h8 (.msl b 5 0 l.length cap) l.length)]:=⟨b,cap,hb,hc,List.Perm.swap _ _ _⟩
 simp only[u8O,zJp]at hpr
 refine qM (cf:=zPe) laid mixed _ _ _ (by kernel_rfl) ?_
 simp (disch:=omega) [zz,zJp,u8O,hb,hb',hl']
 refine hE _ _ (by simp) ?_
 have her:=zRs cap l (cap-l.length)
 have hew:AV.erks (h8.map w6)=h8.map w6:=by simp[AV.erks_eq,Function.comp_def,AV.erk]
 simp (disch:=omega) [zz,Tryz.f160,her,hew]
 exact hpr
set_option maxHeartbeats 8000000 in
theorem zPt (B b cap:Nat) (hb:b≠B) (p l:List UInt8) (h0:0<p.length) (hp:p.length<64) (hc:p.length≤cap) (hl:l.length≤1000000000000) :
  q7 Tryz.prog 160 [.av .ptr (.ptr B U0 []),.av .str (.s l)] [(B,zJp B h8 (.msl b 5 0 p.length cap) p.length),(b,u8O cap p (cap-p.length))]
   fun r H'=>r=.tup []∧H'=jE B (QA (p++l) ((p++l).length / 64)) (QH ((p++l).drop (64*((p++l).length / 64)))) (p++l).length:=by
 have hb':¬B=b:=fun e=>hb e.symm
 refine zov Tryz.func160 zPe fun imm0 w0=>?_
 have hbe:∀x,QH x=.sl .no (x.map K3):=fun _=>rfl
 obtain⟨t,ht⟩:∃t,t=p++l:=⟨_,rfl⟩
 have htl:t.length=p.length+l.length:=by rw[ht];simp
 rw[←ht]
 simp (disch:=omega) [zz,zJp,u8O,zei,hb,hb']
 generalize hF:AT _ _ _=F
 have hmain:F (St.of [(0,.av .ptr (.ptr B U0 []))] [] (fun _=>0) (jE B h8 (QH t) t.length)):=by
  subst hF
  refine AT.loopV (α:=Nat) (fun k ver=>St.of [(0,.av .ptr (.ptr B U0 []))] [] ver (jE B (QA t k) (QH (t.drop (64*k))) t.length))
   (fun k=>64*k≤t.length) (fun k=>t.length-64*k) 0 ?_ ?_ ?_
  ·refine Le.ofW ?_ ?_ ?_ ?_ ?_<;>simp[qU,qG,zbx,C4,zca,zbn,zk8,zfd,zbU,gE,cB,qO,qH,qP,qK,qF,qI,qJ,qN,jE,QA,hbe]<;>try omega
  ·simp
  rintro k ver hk KL hN hE
  obtain⟨R,hR⟩:∃R,t.drop (64*k)=R:=⟨_,rfl⟩
  have hRl:R.length=t.length-64*k:=by rw[←hR];simp
  have hkl:=gT t k
  have hn1:QA t (k+1)=jR (QA t k) (R.take 64):=by rw[QA,hR]
  have hn2:t.drop (64*(k+1))=R.drop 64:=by rw[←hR,List.drop_drop];congr 1
  rw[hR]
  obtain⟨S,hS⟩:∃S,QA t k=S:=⟨_,rfl⟩
  rw[hS]at hn1 hkl ⊢
  refine qM (cf:=zPe) laid mixed _ _ _ (by kernel_rfl) ?_
  by_cases hlt:64≤R.length
  ·have hlt':(64:Int)≤R.length:=by omega
   simp (disch:=omega) [zz,jE,hbe,hlt']
   (repeat with_reducible refine om ?_)
   refine jP (R:=fun r H'=>r=.tup []∧H'=jE B (jR S (R.take 64)) (QH R) t.length) rfl (by simp[qQ]) (by simp) ?_ ?_
   ·have:=zk1 B S (R.take 64) hkl (by simp;omega) (op:=QH R) (nn:=.i .u64 t.length) (by simp) (by simp[AV.erk])
    simpa[jE,hbe,TV.er,AV.er,AV.ers_eq,AV.erk,AV.erks,AV.erks_eq,q8.er_cons,q8.er_nil,HObj.er_var,Function.comp_def,Tok.k]using this
   ·rintro r H' ⟨rfl,rfl⟩
    simp (disch:=omega) [zz,jE,hbe]
    (repeat with_reducible refine om ?_)
    refine hN _ (k+1) ?_ (by omega) (by omega)
    rw[hn1,hn2]
    have htk:List.take R.length (List.map K3 R)=List.map K3 R:=List.take_of_length_le (by simp)
    refine Le.ofW ?_ ?_ ?_ ?_ ?_<;>simp[qU,qG,zbx,C4,zca,zbn,zk8,zfd,zbU,gE,cB,qO,qH,qP,qK,qF,qI,qJ,qN,jE,hbe,htk]<;>try omega
  ·have hlt':¬(64:Int)≤R.length:=by omega
   have hk2:t.length / 64=k:=by omega
   simp (disch:=omega) [zz,jE,hbe,hlt']
   refine hE _ _ (by simp) ?_
   simp (disch:=omega) [zz,Tryz.f160,jE,hbe,hk2,hS,hR]
   simp[AV.erks_eq,Function.comp_def,AV.erk,Tok.k,AV.ers_eq,AV.er]
 ·subst hF
  have e1:(p.map K3++List.replicate (cap-p.length) (AV.i .u8 0)).take p.length=p.map K3:=by rw[List.take_append_of_le_length (by simp)];exact List.take_of_length_le (by simp)
  have e3:∀c,(t.map K3++List.replicate c (AV.i .u8 0)).take (p.length+l.length)=t.map K3:=fun c=>by rw[←htl,List.take_append_of_le_length (by simp)];exact List.take_of_length_le (by simp)
  have e4:p.map K3++l.map K3=t.map K3:=by rw[ht];simp
  refine⟨hc,⟨by omega,by omega⟩,fun h1=>?_,fun h1 b' cap' h2 h3 h4=>?_⟩
  ·refine AT.fzLe (by exact laid) (b:=b) (m:=cap) (e:=5) (xs:=t.map K3++List.replicate (cap-t.length) (.i .u8 0)) (rest:=[(B,zJp B h8 (.msl b 5 0 t.length cap) t.length)]) ?_ ?_ hmain
   ·have e5:(p.map K3++List.replicate (cap-p.length) (AV.i .u8 0)).take p.length++(l.map (fun b=>AV.i .u8 b.toNat)++(p.map K3++List.replicate (cap-p.length) (AV.i .u8 0)).drop (p.length+l.length))=t.map K3++List.replicate (cap-t.length) (AV.i .u8 0):=by
     rw[e1,List.drop_append,List.drop_of_length_le (by simp),←List.append_assoc,List.drop_replicate,htl]
     have e6:cap-p.length-(p.length+l.length-(p.map K3).length)=cap-(p.length+l.length):=by simp;omega
     rw[e6,List.nil_append]
     congr 1
    simp only[e5,zJp,htl,Int.natCast_add]
    exact List.Perm.swap _ _ _
   ·apply Le.of<;>simp[qU,qG,qO,qH,qP,qK,qF,qI,qJ,qN,fzS,fzO,zho,fzA,CY,zNi,zJp,jE,hbe,h1,e3,htl]<;>try omega
  ·have h2':¬B=b':=fun e=>h2 e.symm
   have h3':¬b=b':=fun e=>h3 e.symm
   simp (disch:=omega) [zz,h2,h3,h2',h3',hb,hb']
   refine AT.fzLe (by exact laid) (b:=b') (m:=cap') (e:=5) (xs:=t.map K3++List.replicate (cap'-t.length) (.i .u8 0)) (rest:=[(B,zJp B h8 (.msl b' 5 0 t.length cap') t.length),(b,u8O cap p (cap-p.length))]) ?_ ?_ hmain
   ·have e5:(p.map K3++List.replicate (cap-p.length) (AV.i .u8 0)).take p.length++(l.map (fun b=>AV.i .u8 b.toNat)++List.replicate (cap'-(p.length+l.length)) (AV.i .u8 0))=t.map K3++List.replicate (cap'-t.length) (AV.i .u8 0):=by
     rw[e1,←List.append_assoc,htl]
     congr 1
    simp only[e5,zJp,u8O,htl,Int.natCast_add]
    exact List.Perm.refl _
   ·apply Le.of<;>simp[qU,qG,qO,qH,qP,qK,qF,qI,qJ,qN,fzS,fzO,zho,fzA,CY,zNi,zJp,jE,hbe,h4,e3,htl]<;>try omega
def zIu (ver:Nat→Nat):Option Nat→Tok
 | none=>.full
 | some k=>.own k (ver k)
theorem zIo {P:Program} {s:St} {d:Nat} {o:Option Nat} {e:TypeId} {xs ys:List AV} {K:St→Prop} (h1:2*(xs.length+ys.length)*P.bytesOf e≤281474976710656) (h2:xs.length+ys.length≤4611686018427387904) (h3:zB P e=true) (h4:jX P e=true)
  (hk:∀ver',K (({ s with ver:=ver' }:St).put (some d) (.av (.slice e) (.sl (zIu ver' (some d)) (xs++ys))))):wB P s d e (zIu s.ver o) xs ys K:=by
 refine⟨h1,h2,h3,h4,?_⟩
 cases o with
 | none=>simpa[zIu,upd]using hk (upd s.ver d (s.ver d+1))
 | some k=>exact⟨rfl,by simpa[zIu,upd]using hk (upd (upd s.ver k (s.ver k+1)) d (s.ver d+1))⟩
def zc4:List UInt8:=List.replicate 32 0
end Go.Proofs.YtcioeonlclpacaaGreatDoor
end
section
set_option maxRecDepth 100000
namespace Go.Proofs.YtcioeonlclpacaaGreatDoor
open Go Go.Ab
open Classical
variable [Sel]
set_option maxHeartbeats 16000000 in
theorem zcA (l:List UInt8) (hl:l.length≤9223372036854775807):PC Tryz.prog 100 [.av .str (.s l)] (.av .bool (.b (Q0 l))):=by
 refine zow Tryz.func100 cf0 fun imm0 w0=>?_
 by_cases h1:l=[]
 ·simp (disch:=omega) [zz,h1,Tryz.f100,Q0]
 by_cases h2:l=[46]
 ·simp (disch:=omega) [zz,h2,Tryz.f100,Q0]
 by_cases h3:l=[46,46]
 ·simp (disch:=omega) [zz,h3,Tryz.f100,Q0]
 by_cases h4:l.length≤64
 ·have h4':¬(64:Int)<l.length:=by omega
  simp (disch:=omega) [zz,h1,h2,h3,h4']
  have hpv:Q0 l=l.all fun b=>jD b.toNat:=by simp[Q0,h1,h2,h3,h4]
  refine AT.loop' (α:=Nat) (fun k=>St.of [(0,.av .str (.s l)),(3,.av (.int .i64) (.i .i64 k))] [] (fun _=>0) []) (fun k=>k≤l.length∧((l.take k).all fun b=>jD b.toNat)=true) (fun k=>l.length-k) 0 ?_ ?_ ?_
  ·apply Le.of<;>simp[qU,qG,qO,qH,qP,qK,qF,qI,qJ,qN,zX]<;>try omega
  ·simp
  rintro k ⟨hk,hall⟩ KL hN hE
  refine qM (cf:=cf0) laid mixed _ _ _ (by kernel_rfl) ?_
  by_cases hlt:k<l.length
  ·have hlt':(k:Int)<l.length:=by omega
   obtain⟨n,hn⟩:∃n:Nat,l[k].toNat=n:=⟨_,rfl⟩
   have hn255:n≤255:=by have:=l[k].toNat_lt;omega
   have hbad:jD l[k].toNat=false→Q0 l=false:=by
    intro h
    rw[hpv,List.all_eq_false]
    exact⟨l[k],List.getElem_mem _,by simp[h]⟩
   rcases(by omega:(0≤n∧n≤42)∨n=43∨n=44∨n=45∨n=46∨n=47∨(48≤n∧n≤57)∨(58≤n∧n≤64)∨(65≤n∧n≤90)∨(91≤n∧n≤94)∨n=95∨n=96∨(97≤n∧n≤122)∨(123≤n∧n≤255))with hc|hc|hc|hc|hc|hc|hc|hc|hc|hc|hc|hc|hc|hc
   ·have g97:¬((97:Int)≤n):=by omega
    have g65:¬((65:Int)≤n):=by omega
    have g48:¬((48:Int)≤n):=by omega
    have l122:((n:Int)≤122):=by omega
    have l90:((n:Int)≤90):=by omega
    have l57:((n:Int)≤57):=by omega
    have e95:¬((n:Int)=95):=by omega
    have e46:¬((n:Int)=46):=by omega
    have e45:¬((n:Int)=45):=by omega
    have e43:¬((n:Int)=43):=by omega
    have hs:jD n=false:=by unfold jD;simp;omega
    simp (disch:=omega) [zz,hlt',hn,g97,g65,g48,l122,l90,l57,e95,e46,e45,e43,hs]
    (repeat with_reducible refine om ?_)
    refine hE _ _ (by simp) ?_
    simp (disch:=omega) [zz,Tryz.f100]
    exact hbad (by rw[hn];exact hs)
   ·subst hc
    have hs:jD 43=true:=by decide
    simp (disch:=omega) [zz,hlt',hn,hs]
    (repeat with_reducible refine om ?_)
    refine hN _ (k+1) ?_ ⟨by omega,by rw[List.take_succ_eq_append_getElem hlt,List.all_append,hall];simp[hn,hs]⟩ (by omega)
    apply Le.of<;>simp[qU,qG,qO,qH,qP,qK,qF,qI,qJ,qN,zX]<;>try omega
   ·have g97:¬((97:Int)≤n):=by omega
    have g65:¬((65:Int)≤n):=by omega
    have g48:¬((48:Int)≤n):=by omega
    have l122:((n:Int)≤122):=by omega
    have l90:((n:Int)≤90):=by omega
    have l57:((n:Int)≤57):=by omega
    have e95:¬((n:Int)=95):=by omega
    have e46:¬((n:Int)=46):=by omega
    have e45:¬((n:Int)=45):=by omega
    have e43:¬((n:Int)=43):=by omega
    have hs:jD n=false:=by unfold jD;simp;omega
    simp (disch:=omega) [zz,hlt',hn,g97,g65,g48,l122,l90,l57,e95,e46,e45,e43,hs]
    (repeat with_reducible refine om ?_)
    refine hE _ _ (by simp) ?_
    simp (disch:=omega) [zz,Tryz.f100]
    exact hbad (by rw[hn];exact hs)
   ·subst hc
    have hs:jD 45=true:=by decide
    simp (disch:=omega) [zz,hlt',hn,hs]
    (repeat with_reducible refine om ?_)
    refine hN _ (k+1) ?_ ⟨by omega,by rw[List.take_succ_eq_append_getElem hlt,List.all_append,hall];simp[hn,hs]⟩ (by omega)
    apply Le.of<;>simp[qU,qG,qO,qH,qP,qK,qF,qI,qJ,qN,zX]<;>try omega
   ·subst hc
    have hs:jD 46=true:=by decide
    simp (disch:=omega) [zz,hlt',hn,hs]
    (repeat with_reducible refine om ?_)
    refine hN _ (k+1) ?_ ⟨by omega,by rw[List.take_succ_eq_append_getElem hlt,List.all_append,hall];simp[hn,hs]⟩ (by omega)
    apply Le.of<;>simp[qU,qG,qO,qH,qP,qK,qF,qI,qJ,qN,zX]<;>try omega
   ·have g97:¬((97:Int)≤n):=by omega
    have g65:¬((65:Int)≤n):=by omega
    have g48:¬((48:Int)≤n):=by omega
    have l122:((n:Int)≤122):=by omega
    have l90:((n:Int)≤90):=by omega
    have l57:((n:Int)≤57):=by omega
    have e95:¬((n:Int)=95):=by omega
    have e46:¬((n:Int)=46):=by omega
    have e45:¬((n:Int)=45):=by omega
    have e43:¬((n:Int)=43):=by omega
    have hs:jD n=false:=by unfold jD;simp;omega
    simp (disch:=omega) [zz,hlt',hn,g97,g65,g48,l122,l90,l57,e95,e46,e45,e43,hs]
    (repeat with_reducible refine om ?_)
    refine hE _ _ (by simp) ?_
    simp (disch:=omega) [zz,Tryz.f100]
    exact hbad (by rw[hn];exact hs)
   ·have g97:¬((97:Int)≤n):=by omega
    have g65:¬((65:Int)≤n):=by omega
    have g48:((48:Int)≤n):=by omega
    have l122:((n:Int)≤122):=by omega
    have l90:((n:Int)≤90):=by omega
    have l57:((n:Int)≤57):=by omega
    have e95:¬((n:Int)=95):=by omega
    have e46:¬((n:Int)=46):=by omega
    have e45:¬((n:Int)=45):=by omega
    have e43:¬((n:Int)=43):=by omega
    have hs:jD n=true:=by unfold jD;simp;omega
    simp (disch:=omega) [zz,hlt',hn,g97,g65,g48,l122,l90,l57,e95,e46,e45,e43,hs]
    (repeat with_reducible refine om ?_)
    refine hN _ (k+1) ?_ ⟨by omega,by rw[List.take_succ_eq_append_getElem hlt,List.all_append,hall];simp[hn,hs]⟩ (by omega)
    apply Le.of<;>simp[qU,qG,qO,qH,qP,qK,qF,qI,qJ,qN,zX]<;>try omega
   ·have g97:¬((97:Int)≤n):=by omega
    have g65:¬((65:Int)≤n):=by omega
    have g48:((48:Int)≤n):=by omega
    have l122:((n:Int)≤122):=by omega
    have l90:((n:Int)≤90):=by omega
    have l57:¬((n:Int)≤57):=by omega
    have e95:¬((n:Int)=95):=by omega
    have e46:¬((n:Int)=46):=by omega
    have e45:¬((n:Int)=45):=by omega
    have e43:¬((n:Int)=43):=by omega
    have hs:jD n=false:=by unfold jD;simp;omega
    simp (disch:=omega) [zz,hlt',hn,g97,g65,g48,l122,l90,l57,e95,e46,e45,e43,hs]
    (repeat with_reducible refine om ?_)
    refine hE _ _ (by simp) ?_
    simp (disch:=omega) [zz,Tryz.f100]
    exact hbad (by rw[hn];exact hs)
   ·have g97:¬((97:Int)≤n):=by omega
    have g65:((65:Int)≤n):=by omega
    have g48:((48:Int)≤n):=by omega
    have l122:((n:Int)≤122):=by omega
    have l90:((n:Int)≤90):=by omega
    have l57:¬((n:Int)≤57):=by omega
    have e95:¬((n:Int)=95):=by omega
    have e46:¬((n:Int)=46):=by omega
    have e45:¬((n:Int)=45):=by omega
    have e43:¬((n:Int)=43):=by omega
    have hs:jD n=true:=by unfold jD;simp;omega
    simp (disch:=omega) [zz,hlt',hn,g97,g65,g48,l122,l90,l57,e95,e46,e45,e43,hs]
    (repeat with_reducible refine om ?_)
    refine hN _ (k+1) ?_ ⟨by omega,by rw[List.take_succ_eq_append_getElem hlt,List.all_append,hall];simp[hn,hs]⟩ (by omega)
    apply Le.of<;>simp[qU,qG,qO,qH,qP,qK,qF,qI,qJ,qN,zX]<;>try omega
   ·have g97:¬((97:Int)≤n):=by omega
    have g65:((65:Int)≤n):=by omega
    have g48:((48:Int)≤n):=by omega
    have l122:((n:Int)≤122):=by omega
    have l90:¬((n:Int)≤90):=by omega
    have l57:¬((n:Int)≤57):=by omega
    have e95:¬((n:Int)=95):=by omega
    have e46:¬((n:Int)=46):=by omega
    have e45:¬((n:Int)=45):=by omega
    have e43:¬((n:Int)=43):=by omega
    have hs:jD n=false:=by unfold jD;simp;omega
    simp (disch:=omega) [zz,hlt',hn,g97,g65,g48,l122,l90,l57,e95,e46,e45,e43,hs]
    (repeat with_reducible refine om ?_)
    refine hE _ _ (by simp) ?_
    simp (disch:=omega) [zz,Tryz.f100]
    exact hbad (by rw[hn];exact hs)
   ·subst hc
    have hs:jD 95=true:=by decide
    simp (disch:=omega) [zz,hlt',hn,hs]
    (repeat with_reducible refine om ?_)
    refine hN _ (k+1) ?_ ⟨by omega,by rw[List.take_succ_eq_append_getElem hlt,List.all_append,hall];simp[hn,hs]⟩ (by omega)
    apply Le.of<;>simp[qU,qG,qO,qH,qP,qK,qF,qI,qJ,qN,zX]<;>try omega
   ·have g97:¬((97:Int)≤n):=by omega
    have g65:((65:Int)≤n):=by omega
    have g48:((48:Int)≤n):=by omega
    have l122:((n:Int)≤122):=by omega
    have l90:¬((n:Int)≤90):=by omega
    have l57:¬((n:Int)≤57):=by omega
    have e95:¬((n:Int)=95):=by omega
    have e46:¬((n:Int)=46):=by omega
    have e45:¬((n:Int)=45):=by omega
    have e43:¬((n:Int)=43):=by omega
    have hs:jD n=false:=by unfold jD;simp;omega
    simp (disch:=omega) [zz,hlt',hn,g97,g65,g48,l122,l90,l57,e95,e46,e45,e43,hs]
    (repeat with_reducible refine om ?_)
    refine hE _ _ (by simp) ?_
    simp (disch:=omega) [zz,Tryz.f100]
    exact hbad (by rw[hn];exact hs)
   ·have g97:((97:Int)≤n):=by omega
    have g65:((65:Int)≤n):=by omega
    have g48:((48:Int)≤n):=by omega
    have l122:((n:Int)≤122):=by omega
    have l90:¬((n:Int)≤90):=by omega
    have l57:¬((n:Int)≤57):=by omega
    have e95:¬((n:Int)=95):=by omega
    have e46:¬((n:Int)=46):=by omega
    have e45:¬((n:Int)=45):=by omega
    have e43:¬((n:Int)=43):=by omega
    have hs:jD n=true:=by unfold jD;simp;omega
    simp (disch:=omega) [zz,hlt',hn,g97,g65,g48,l122,l90,l57,e95,e46,e45,e43,hs]
    (repeat with_reducible refine om ?_)
    refine hN _ (k+1) ?_ ⟨by omega,by rw[List.take_succ_eq_append_getElem hlt,List.all_append,hall];simp[hn,hs]⟩ (by omega)
    apply Le.of<;>simp[qU,qG,qO,qH,qP,qK,qF,qI,qJ,qN,zX]<;>try omega
   ·have g97:((97:Int)≤n):=by omega
    have g65:((65:Int)≤n):=by omega
    have g48:((48:Int)≤n):=by omega
    have l122:¬((n:Int)≤122):=by omega
    have l90:¬((n:Int)≤90):=by omega
    have l57:¬((n:Int)≤57):=by omega
    have e95:¬((n:Int)=95):=by omega
    have e46:¬((n:Int)=46):=by omega
    have e45:¬((n:Int)=45):=by omega
    have e43:¬((n:Int)=43):=by omega
    have hs:jD n=false:=by unfold jD;simp;omega
    simp (disch:=omega) [zz,hlt',hn,g97,g65,g48,l122,l90,l57,e95,e46,e45,e43,hs]
    (repeat with_reducible refine om ?_)
    refine hE _ _ (by simp) ?_
    simp (disch:=omega) [zz,Tryz.f100]
    exact hbad (by rw[hn];exact hs)
  ·have hlt':¬(k:Int)<l.length:=by omega
   simp (disch:=omega) [zz,hlt']
   refine hE _ _ (by simp) ?_
   rw[List.take_of_length_le (by omega)]at hall
   simp (disch:=omega) [zz,Tryz.f100,hpv,hall]
 ·have h4':(64:Int)<l.length:=by omega
  simp (disch:=omega) [zz,h1,h2,h3,h4',Tryz.f100,Q0,h4]
end Go.Proofs.YtcioeonlclpacaaGreatDoor
end
