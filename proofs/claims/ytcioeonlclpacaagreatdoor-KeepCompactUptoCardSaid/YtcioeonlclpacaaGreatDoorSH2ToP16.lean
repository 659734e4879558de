/- The program's SHA-256 of two parts, the first of which is short. No condition beyond each theorem's own. -/
import Derived.Test.YtcioeonlclpacaaGreatDoorS3ToS8
import Derived.Test.YtcioeonlclpacaaGreatDoorAbSl
import Derived.Test.YtcioeonlclpacaaGreatDoorB0
import Derived.Test.YtcioeonlclpacaaGreatDoorP8ToE4a
import Derived.Test.YtcioeonlclpacaaGreatDoorL0
set_option linter.unusedSimpArgs false
set_option linter.unusedVariables false
set_option linter.unusedSectionVars false
section
set_option maxRecDepth 100000
namespace Go.Proofs.YtcioeonlclpacaaGreatDoor
open Go Go.Ab
open Classical
variable [Sel]
abbrev zSL:Cfg:=⟨fun n=>n==3,fun n=>n==2⟩
noncomputable def zJp (B:Nat) (s:List UInt32) (op:AV) (n:Nat):HObj:=.var U0 (.agg [.agg (s.map w6),op,.i .u64 n])
theorem zPC:q7 Tryz.prog 159 [] [] fun r H'=>∃B,r=.av .ptr (.ptr B U0 [])∧H'=[(B,zJp B h8 .nsl 0)]:=by
 refine zov Tryz.func159 zSL fun imm0 w0=>?_
 simp (disch:=omega) [zz]
 refine qL zjO rfl rfl (by simp) (by simp[qS]) ?_
 simp (disch:=omega) [zz]
 intro B
 simp (disch:=omega) [zz,Tryz.f159]
 simp[zJp,AV.erks_eq,Function.comp_def,AV.erk]
abbrev zPe:Cfg:=⟨fun _=>false,fun n=>n==39||n==22⟩
noncomputable def u8O (cap:Nat) (l:List UInt8) (j:Nat):HObj:=.var (.arr cap 5) (.agg (l.map K3++List.replicate j (.i .u8 0)))
theorem zQy (cap:Nat) (l:List UInt8) (j:Nat):(u8O cap l j).er=u8O cap l j:=by
 simp only[u8O,HObj.er_var,AV.erk,AV.erks_eq,List.map_append,List.map_map,Function.comp_def,List.map_replicate]
theorem zRs (cap:Nat) (l:List UInt8) (j:Nat):AV.erks (l.map K3++List.replicate j (.i .u8 0))=l.map K3++List.replicate j (.i .u8 0):=by
 simp only[AV.erk,AV.erks_eq,List.map_append,List.map_map,Function.comp_def,List.map_replicate]
theorem zNi (b m:Nat) (e:TypeId) (xs:List AV):∀l:List UInt32,CY b m e xs (l.map w6)=l.map w6
 | []=>by simp[CY]
 | x::l=>by simp[CY,fzA,zNi b m e xs l]
def zL0 (B:Nat) (l:List UInt8) (H:q8):Prop:=∃b cap,b≠B∧l.length≤cap∧H.Perm [(B,zJp B h8 (.msl b 5 0 l.length cap) l.length),(b,u8O cap l (cap-l.length))]
set_option maxHeartbeats 4000000 in
theorem zPw (B:Nat) (l:List UInt8) (h0:0<l.length) (hl:l.length<64) :
  q7 Tryz.prog 160 [.av .ptr (.ptr B U0 []),.av .str (.s l)] [(B,zJp B h8 .nsl 0)] fun r H'=>r=.tup []∧zL0 B l H':=by
 refine zov Tryz.func160 zPe fun imm0 w0=>?_
 simp (disch:=omega) [zz,zJp,zei]
 refine⟨by omega,fun h=>(by rw[h]at h0;simp at h0),fun _ b cap hb hc=>?_⟩
 have hb':¬B=b:=fun e=>hb e.symm
 simp (disch:=omega) [zz,hb,hb']
 refine AT.loop' (α:=Unit) (fun _=>St.of [(0,.av .ptr (.ptr B U0 []))] [] (fun _=>0) [(b,u8O cap l (cap-l.length)),(B,zJp B h8 (.msl b 5 0 l.length cap) l.length)])
  (fun _=>True) (fun _=>0) () ?_ trivial ?_
 ·apply Le.of<;>simp[qU,qG,qO,qH,qP,qK,qF,qI,qJ,qN,zJp,u8O,hb,hb']<;>try omega
 rintro _ _ KL hN hE
 have hl':¬(64:Int)≤l.length:=by omega
 have hpr:zL0 B l [(b,u8O cap l (cap-l.length)),(B,zJp B h8 (.msl b 5 0 l.length cap) l.length)]:=⟨b,cap,hb,hc,List.Perm.swap _ _ _⟩
 simp only[u8O,zJp]at hpr
 refine qM (cf:=zPe) laid mixed _ _ _ (by kernel_rfl) ?_
 simp (disch:=omega) [zz,zJp,u8O,hb,hb',hl']
 refine hE _ _ (by simp) ?_
 have her:=zRs cap l (cap-l.length)
 have hew:AV.erks (h8.map w6)=h8.map w6:=by simp[AV.erks_eq,Function.comp_def,AV.erk]
 simp (disch:=omega) [zz,Tryz.f160,her,hew]
 exact hpr
set_option maxHeartbeats 8000000 in
theorem zPt (B b cap:Nat) (hb:b≠B) (p l:List UInt8) (h0:0<p.length) (hp:p.length<64) (hc:p.length≤cap) (hl:l.length≤1000000000000) :
  q7 Tryz.prog 160 [.av .ptr (.ptr B U0 []),.av .str (.s l)] [(B,zJp B h8 (.msl b 5 0 p.length cap) p.length),(b,u8O cap p (cap-p.length))]
   fun r H'=>r=.tup []∧H'=jE B (QA (p++l) ((p++l).length / 64)) (QH ((p++l).drop (64*((p++l).length / 64)))) (p++l).length:=by
 have hb':¬B=b:=fun e=>hb e.symm
 refine zov Tryz.func160 zPe fun imm0 w0=>?_
 have hbe:∀x,QH x=.sl .no (x.map K3):=fun _=>rfl
 obtain⟨t,ht⟩:∃t,t=p++l:=⟨_,rfl⟩
 have htl:t.length=p.length+l.length:=by rw[ht];simp
 rw[←ht]
 simp (disch:=omega) [zz,zJp,u8O,zei,hb,hb']
 generalize hF:AT _ _ _=F
 have hmain:F (St.of [(0,.av .ptr (.ptr B U0 []))] [] (fun _=>0) (jE B h8 (QH t) t.length)):=by
  subst hF
  refine AT.loopV (α:=Nat) (fun k ver=>St.of [(0,.av .ptr (.ptr B U0 []))] [] ver (jE B (QA t k) (QH (t.drop (64*k))) t.length))
   (fun k=>64*k≤t.length) (fun k=>t.length-64*k) 0 ?_ ?_ ?_
  ·refine Le.ofW ?_ ?_ ?_ ?_ ?_<;>simp[qU,qG,zbx,C4,zca,zbn,zk8,zfd,zbU,gE,cB,qO,qH,qP,qK,qF,qI,qJ,qN,jE,QA,hbe]<;>try omega
  ·simp
  rintro k ver hk KL hN hE
  obtain⟨R,hR⟩:∃R,t.drop (64*k)=R:=⟨_,rfl⟩
  have hRl:R.length=t.length-64*k:=by rw[←hR];simp
  have hkl:=gT t k
  have hn1:QA t (k+1)=jR (QA t k) (R.take 64):=by rw[QA,hR]
  have hn2:t.drop (64*(k+1))=R.drop 64:=by rw[←hR,List.drop_drop];congr 1
  rw[hR]
  obtain⟨S,hS⟩:∃S,QA t k=S:=⟨_,rfl⟩
  rw[hS]at hn1 hkl ⊢
  refine qM (cf:=zPe) laid mixed _ _ _ (by kernel_rfl) ?_
  by_cases hlt:64≤R.length
  ·have hlt':(64:Int)≤R.length:=by omega
   simp (disch:=omega) [zz,jE,hbe,hlt']
   (repeat with_reducible refine om ?_)
   refine jP (R:=fun r H'=>r=.tup []∧H'=jE B (jR S (R.take 64)) (QH R) t.length) rfl (by simp[qQ]) (by simp) ?_ ?_
   ·have:=zk1 B S (R.take 64) hkl (by simp;omega) (op:=QH R) (nn:=.i .u64 t.length) (by simp) (by simp[AV.erk])
    simpa[jE,hbe,TV.er,AV.er,AV.ers_eq,AV.erk,AV.erks,AV.erks_eq,q8.er_cons,q8.er_nil,HObj.er_var,Function.comp_def,Tok.k]using this
   ·rintro r H' ⟨rfl,rfl⟩
    simp (disch:=omega) [zz,jE,hbe]
    (repeat with_reducible refine om ?_)
    refine hN _ (k+1) ?_ (by omega) (by omega)
    rw[hn1,hn2]
    have htk:List.take R.length (List.map K3 R)=List.map K3 R:=List.take_of_length_le (by simp)
    refine Le.ofW ?_ ?_ ?_ ?_ ?_<;>simp[qU,qG,zbx,C4,zca,zbn,zk8,zfd,zbU,gE,cB,qO,qH,qP,qK,qF,qI,qJ,qN,jE,hbe,htk]<;>try omega
  ·have hlt':¬(64:Int)≤R.length:=by omega
   have hk2:t.length / 64=k:=by omega
   simp (disch:=omega) [zz,jE,hbe,hlt']
   refine hE _ _ (by simp) ?_
   simp (disch:=omega) [zz,Tryz.f160,jE,hbe,hk2,hS,hR]
   simp[AV.erks_eq,Function.comp_def,AV.erk,Tok.k,AV.ers_eq,AV.er]
 ·subst hF
  have e1:(p.map K3++List.replicate (cap-p.length) (AV.i .u8 0)).take p.length=p.map K3:=by rw[List.take_append_of_le_length (by simp)];exact List.take_of_length_le (by simp)
  have e3:∀c,(t.map K3++List.replicate c (AV.i .u8 0)).take (p.length+l.length)=t.map K3:=fun c=>by rw[←htl,List.take_append_of_le_length (by simp)];exact List.take_of_length_le (by simp)
  have e4:p.map K3++l.map K3=t.map K3:=by rw[ht];simp
  refine⟨hc,⟨by omega,by omega⟩,fun h1=>?_,fun h1 b' cap' h2 h3 h4=>?_⟩
  ·refine AT.fzLe (by exact laid) (b:=b) (m:=cap) (e:=5) (xs:=t.map K3++List.replicate (cap-t.length) (.i .u8 0)) (rest:=[(B,zJp B h8 (.msl b 5 0 t.length cap) t.length)]) ?_ ?_ hmain
   ·have e5:(p.map K3++List.replicate (cap-p.length) (AV.i .u8 0)).take p.length++(l.map (fun b=>AV.i .u8 b.toNat)++(p.map K3++List.replicate (cap-p.length) (AV.i .u8 0)).drop (p.length+l.length))=t.map K3++List.replicate (cap-t.length) (AV.i .u8 0):=by
     rw[e1,List.drop_append,List.drop_of_length_le (by simp),←List.append_assoc,List.drop_replicate,htl]
     have e6:cap-p.length-(p.length+l.length-(p.map K3).length)=cap-(p.length+l.length):=by simp;omega
     rw[e6,List.nil_append]
     congr 1
    simp only[e5,zJp,htl,Int.natCast_add]
    exact List.Perm.swap _ _ _
   ·apply Le.of<;>simp[qU,qG,qO,qH,qP,qK,qF,qI,qJ,qN,fzS,fzO,zho,fzA,CY,zNi,zJp,jE,hbe,h1,e3,htl]<;>try omega
  ·have h2':¬B=b':=fun e=>h2 e.symm
   have h3':¬b=b':=fun e=>h3 e.symm
   simp (disch:=omega) [zz,h2,h3,h2',h3',hb,hb']
   refine AT.fzLe (by exact laid) (b:=b') (m:=cap') (e:=5) (xs:=t.map K3++List.replicate (cap'-t.length) (.i .u8 0)) (rest:=[(B,zJp B h8 (.msl b' 5 0 t.length cap') t.length),(b,u8O cap p (cap-p.length))]) ?_ ?_ hmain
   ·have e5:(p.map K3++List.replicate (cap-p.length) (AV.i .u8 0)).take p.length++(l.map (fun b=>AV.i .u8 b.toNat)++List.replicate (cap'-(p.length+l.length)) (AV.i .u8 0))=t.map K3++List.replicate (cap'-t.length) (AV.i .u8 0):=by
     rw[e1,←List.append_assoc,htl]
     congr 1
    simp only[e5,zJp,u8O,htl,Int.natCast_add]
    exact List.Perm.refl _
   ·apply Le.of<;>simp[qU,qG,qO,qH,qP,qK,qF,qI,qJ,qN,fzS,fzO,zho,fzA,CY,zNi,zJp,jE,hbe,h4,e3,htl]<;>try omega
def zIu (ver:Nat→Nat):Option Nat→Tok
 | none=>.full
 | some k=>.own k (ver k)
theorem zIo {P:Program} {s:St} {d:Nat} {o:Option Nat} {e:TypeId} {xs ys:List AV} {K:St→Prop} (h1:2*(xs.length+ys.length)*P.bytesOf e≤281474976710656) (h2:xs.length+ys.length≤4611686018427387904) (h3:zB P e=true) (h4:jX P e=true)
  (hk:∀ver',K (({ s with ver:=ver' }:St).put (some d) (.av (.slice e) (.sl (zIu ver' (some d)) (xs++ys))))):wB P s d e (zIu s.ver o) xs ys K:=by
 refine⟨h1,h2,h3,h4,?_⟩
 cases o with
 | none=>simpa[zIu,upd]using hk (upd s.ver d (s.ver d+1))
 | some k=>exact⟨rfl,by simpa[zIu,upd]using hk (upd (upd s.ver k (s.ver k+1)) d (s.ver d+1))⟩
def zc4:List UInt8:=List.replicate 32 0
end Go.Proofs.YtcioeonlclpacaaGreatDoor
end
section
set_option maxRecDepth 100000
namespace Go.Proofs.YtcioeonlclpacaaGreatDoor
open Go Go.Ab
open Classical
variable [Sel]
set_option maxHeartbeats 16000000 in
theorem zcA (l:List UInt8) (hl:l.length≤9223372036854775807):PC Tryz.prog 100 [.av .str (.s l)] (.av .bool (.b (Q0 l))):=by
 refine zow Tryz.func100 cf0 fun imm0 w0=>?_
 by_cases h1:l=[]
 ·simp (disch:=omega) [zz,h1,Tryz.f100,Q0]
 by_cases h2:l=[46]
 ·simp (disch:=omega) [zz,h2,Tryz.f100,Q0]
 by_cases h3:l=[46,46]
 ·simp (disch:=omega) [zz,h3,Tryz.f100,Q0]
 by_cases h4:l.length≤64
 ·have h4':¬(64:Int)<l.length:=by omega
  simp (disch:=omega) [zz,h1,h2,h3,h4']
  have hpv:Q0 l=l.all fun b=>jD b.toNat:=by simp[Q0,h1,h2,h3,h4]
  refine AT.loop' (α:=Nat) (fun k=>St.of [(0,.av .str (.s l)),(3,.av (.int .i64) (.i .i64 k))] [] (fun _=>0) []) (fun k=>k≤l.length∧((l.take k).all fun b=>jD b.toNat)=true) (fun k=>l.length-k) 0 ?_ ?_ ?_
  ·apply Le.of<;>simp[qU,qG,qO,qH,qP,qK,qF,qI,qJ,qN,zX]<;>try omega
  ·simp
  rintro k ⟨hk,hall⟩ KL hN hE
  refine qM (cf:=cf0) laid mixed _ _ _ (by kernel_rfl) ?_
  by_cases hlt:k<l.length
  ·have hlt':(k:Int)<l.length:=by omega
   obtain⟨n,hn⟩:∃n:Nat,l[k].toNat=n:=⟨_,rfl⟩
   have hn255:n≤255:=by have:=l[k].toNat_lt;omega
   have hbad:jD l[k].toNat=false→Q0 l=false:=by
    intro h
    rw[hpv,List.all_eq_false]
    exact⟨l[k],List.getElem_mem _,by simp[h]⟩
   rcases(by omega:(0≤n∧n≤42)∨n=43∨n=44∨n=45∨n=46∨n=47∨(48≤n∧n≤57)∨(58≤n∧n≤64)∨(65≤n∧n≤90)∨(91≤n∧n≤94)∨n=95∨n=96∨(97≤n∧n≤122)∨(123≤n∧n≤255))with hc|hc|hc|hc|hc|hc|hc|hc|hc|hc|hc|hc|hc|hc
   ·have g97:¬((97:Int)≤n):=by omega
    have g65:¬((65:Int)≤n):=by omega
    have g48:¬((48:Int)≤n):=by omega
    have l122:((n:Int)≤122):=by omega
    have l90:((n:Int)≤90):=by omega
    have l57:((n:Int)≤57):=by omega
    have e95:¬((n:Int)=95):=by omega
    have e46:¬((n:Int)=46):=by omega
    have e45:¬((n:Int)=45):=by omega
    have e43:¬((n:Int)=43):=by omega
    have hs:jD n=false:=by unfold jD;simp;omega
    simp (disch:=omega) [zz,hlt',hn,g97,g65,g48,l122,l90,l57,e95,e46,e45,e43,hs]
    (repeat with_reducible refine om ?_)
    refine hE _ _ (by simp) ?_
    simp (disch:=omega) [zz,Tryz.f100]
    exact hbad (by rw[hn];exact hs)
   ·subst hc
    have hs:jD 43=true:=by decide
    simp (disch:=omega) [zz,hlt',hn,hs]
    (repeat with_reducible refine om ?_)
    refine hN _ (k+1) ?_ ⟨by omega,by rw[List.take_succ_eq_append_getElem hlt,List.all_append,hall];simp[hn,hs]⟩ (by omega)
    apply Le.of<;>simp[qU,qG,qO,qH,qP,qK,qF,qI,qJ,qN,zX]<;>try omega
   ·have g97:¬((97:Int)≤n):=by omega
    have g65:¬((65:Int)≤n):=by omega
    have g48:¬((48:Int)≤n):=by omega
    have l122:((n:Int)≤122):=by omega
    have l90:((n:Int)≤90):=by omega
    have l57:((n:Int)≤57):=by omega
    have e95:¬((n:Int)=95):=by omega
    have e46:¬((n:Int)=46):=by omega
    have e45:¬((n:Int)=45):=by omega
    have e43:¬((n:Int)=43):=by omega
    have hs:jD n=false:=by unfold jD;simp;omega
    simp (disch:=omega) [zz,hlt',hn,g97,g65,g48,l122,l90,l57,e95,e46,e45,e43,hs]
    (repeat with_reducible refine om ?_)
    refine hE _ _ (by simp) ?_
    simp (disch:=omega) [zz,Tryz.f100]
    exact hbad (by rw[hn];exact hs)
   ·subst hc
    have hs:jD 45=true:=by decide
    simp (disch:=omega) [zz,hlt',hn,hs]
    (repeat with_reducible refine om ?_)
    refine hN _ (k+1) ?_ ⟨by omega,by rw[List.take_succ_eq_append_getElem hlt,List.all_append,hall];simp[hn,hs]⟩ (by omega)
    apply Le.of<;>simp[qU,qG,qO,qH,qP,qK,qF,qI,qJ,qN,zX]<;>try omega
   ·subst hc
    have hs:jD 46=true:=by decide
    simp (disch:=omega) [zz,hlt',hn,hs]
    (repeat with_reducible refine om ?_)
    refine hN _ (k+1) ?_ ⟨by omega,by rw[List.take_succ_eq_append_getElem hlt,List.all_append,hall];simp[hn,hs]⟩ (by omega)
    apply Le.of<;>simp[qU,qG,qO,qH,qP,qK,qF,qI,qJ,qN,zX]<;>try omega
   ·have g97:¬((97:Int)≤n):=by omega
    have g65:¬((65:Int)≤n):=by omega
    have g48:¬((48:Int)≤n):=by omega
    have l122:((n:Int)≤122):=by omega
    have l90:((n:Int)≤90):=by omega
    have l57:((n:Int)≤57):=by omega
    have e95:¬((n:Int)=95):=by omega
    have e46:¬((n:Int)=46):=by omega
    have e45:¬((n:Int)=45):=by omega
    have e43:¬((n:Int)=43):=by omega
    have hs:jD n=false:=by unfold jD;simp;omega
    simp (disch:=omega) [zz,hlt',hn,g97,g65,g48,l122,l90,l57,e95,e46,e45,e43,hs]
    (repeat with_reducible refine om ?_)
    refine hE _ _ (by simp) ?_
    simp (disch:=omega) [zz,Tryz.f100]
    exact hbad (by rw[hn];exact hs)
   ·have g97:¬((97:Int)≤n):=by omega
    have g65:¬((65:Int)≤n):=by omega
    have g48:((48:Int)≤n):=by omega
    have l122:((n:Int)≤122):=by omega
    have l90:((n:Int)≤90):=by omega
    have l57:((n:Int)≤57):=by omega
    have e95:¬((n:Int)=95):=by omega
    have e46:¬((n:Int)=46):=by omega
    have e45:¬((n:Int)=45):=by omega
    have e43:¬((n:Int)=43):=by omega
    have hs:jD n=true:=by unfold jD;simp;omega
    simp (disch:=omega) [zz,hlt',hn,g97,g65,g48,l122,l90,l57,e95,e46,e45,e43,hs]
    (repeat with_reducible refine om ?_)
    refine hN _ (k+1) ?_ ⟨by omega,by rw[List.take_succ_eq_append_getElem hlt,List.all_append,hall];simp[hn,hs]⟩ (by omega)
    apply Le.of<;>simp[qU,qG,qO,qH,qP,qK,qF,qI,qJ,qN,zX]<;>try omega
   ·have g97:¬((97:Int)≤n):=by omega
    have g65:¬((65:Int)≤n):=by omega
    have g48:((48:Int)≤n):=by omega
    have l122:((n:Int)≤122):=by omega
    have l90:((n:Int)≤90):=by omega
    have l57:¬((n:Int)≤57):=by omega
    have e95:¬((n:Int)=95):=by omega
    have e46:¬((n:Int)=46):=by omega
    have e45:¬((n:Int)=45):=by omega
    have e43:¬((n:Int)=43):=by omega
    have hs:jD n=false:=by unfold jD;simp;omega
    simp (disch:=omega) [zz,hlt',hn,g97,g65,g48,l122,l90,l57,e95,e46,e45,e43,hs]
    (repeat with_reducible refine om ?_)
    refine hE _ _ (by simp) ?_
    simp (disch:=omega) [zz,Tryz.f100]
    exact hbad (by rw[hn];exact hs)
   ·have g97:¬((97:Int)≤n):=by omega
    have g65:((65:Int)≤n):=by omega
    have g48:((48:Int)≤n):=by omega
    have l122:((n:Int)≤122):=by omega
    have l90:((n:Int)≤90):=by omega
    have l57:¬((n:Int)≤57):=by omega
    have e95:¬((n:Int)=95):=by omega
    have e46:¬((n:Int)=46):=by omega
    have e45:¬((n:Int)=45):=by omega
    have e43:¬((n:Int)=43):=by omega
    have hs:jD n=true:=by unfold jD;simp;omega
    simp (disch:=omega) [zz,hlt',hn,g97,g65,g48,l122,l90,l57,e95,e46,e45,e43,hs]
    (repeat with_reducible refine om ?_)
    refine hN _ (k+1) ?_ ⟨by omega,by rw[List.take_succ_eq_append_getElem hlt,List.all_append,hall];simp[hn,hs]⟩ (by omega)
    apply Le.of<;>simp[qU,qG,qO,qH,qP,qK,qF,qI,qJ,qN,zX]<;>try omega
   ·have g97:¬((97:Int)≤n):=by omega
    have g65:((65:Int)≤n):=by omega
    have g48:((48:Int)≤n):=by omega
    have l122:((n:Int)≤122):=by omega
    have l90:¬((n:Int)≤90):=by omega
    have l57:¬((n:Int)≤57):=by omega
    have e95:¬((n:Int)=95):=by omega
    have e46:¬((n:Int)=46):=by omega
    have e45:¬((n:Int)=45):=by omega
    have e43:¬((n:Int)=43):=by omega
    have hs:jD n=false:=by unfold jD;simp;omega
    simp (disch:=omega) [zz,hlt',hn,g97,g65,g48,l122,l90,l57,e95,e46,e45,e43,hs]
    (repeat with_reducible refine om ?_)
    refine hE _ _ (by simp) ?_
    simp (disch:=omega) [zz,Tryz.f100]
    exact hbad (by rw[hn];exact hs)
   ·subst hc
    have hs:jD 95=true:=by decide
    simp (disch:=omega) [zz,hlt',hn,hs]
    (repeat with_reducible refine om ?_)
    refine hN _ (k+1) ?_ ⟨by omega,by rw[List.take_succ_eq_append_getElem hlt,List.all_append,hall];simp[hn,hs]⟩ (by omega)
    apply Le.of<;>simp[qU,qG,qO,qH,qP,qK,qF,qI,qJ,qN,zX]<;>try omega
   ·have g97:¬((97:Int)≤n):=by omega
    have g65:((65:Int)≤n):=by omega
    have g48:((48:Int)≤n):=by omega
    have l122:((n:Int)≤122):=by omega
    have l90:¬((n:Int)≤90):=by omega
    have l57:¬((n:Int)≤57):=by omega
    have e95:¬((n:Int)=95):=by omega
    have e46:¬((n:Int)=46):=by omega
    have e45:¬((n:Int)=45):=by omega
    have e43:¬((n:Int)=43):=by omega
    have hs:jD n=false:=by unfold jD;simp;omega
    simp (disch:=omega) [zz,hlt',hn,g97,g65,g48,l122,l90,l57,e95,e46,e45,e43,hs]
    (repeat with_reducible refine om ?_)
    refine hE _ _ (by simp) ?_
    simp (disch:=omega) [zz,Tryz.f100]
    exact hbad (by rw[hn];exact hs)
   ·have g97:((97:Int)≤n):=by omega
    have g65:((65:Int)≤n):=by omega
    have g48:((48:Int)≤n):=by omega
    have l122:((n:Int)≤122):=by omega
    have l90:¬((n:Int)≤90):=by omega
    have l57:¬((n:Int)≤57):=by omega
    have e95:¬((n:Int)=95):=by omega
    have e46:¬((n:Int)=46):=by omega
    have e45:¬((n:Int)=45):=by omega
    have e43:¬((n:Int)=43):=by omega
    have hs:jD n=true:=by unfold jD;simp;omega
    simp (disch:=omega) [zz,hlt',hn,g97,g65,g48,l122,l90,l57,e95,e46,e45,e43,hs]
    (repeat with_reducible refine om ?_)
    refine hN _ (k+1) ?_ ⟨by omega,by rw[List.take_succ_eq_append_getElem hlt,List.all_append,hall];simp[hn,hs]⟩ (by omega)
    apply Le.of<;>simp[qU,qG,qO,qH,qP,qK,qF,qI,qJ,qN,zX]<;>try omega
   ·have g97:((97:Int)≤n):=by omega
    have g65:((65:Int)≤n):=by omega
    have g48:((48:Int)≤n):=by omega
    have l122:¬((n:Int)≤122):=by omega
    have l90:¬((n:Int)≤90):=by omega
    have l57:¬((n:Int)≤57):=by omega
    have e95:¬((n:Int)=95):=by omega
    have e46:¬((n:Int)=46):=by omega
    have e45:¬((n:Int)=45):=by omega
    have e43:¬((n:Int)=43):=by omega
    have hs:jD n=false:=by unfold jD;simp;omega
    simp (disch:=omega) [zz,hlt',hn,g97,g65,g48,l122,l90,l57,e95,e46,e45,e43,hs]
    (repeat with_reducible refine om ?_)
    refine hE _ _ (by simp) ?_
    simp (disch:=omega) [zz,Tryz.f100]
    exact hbad (by rw[hn];exact hs)
  ·have hlt':¬(k:Int)<l.length:=by omega
   simp (disch:=omega) [zz,hlt']
   refine hE _ _ (by simp) ?_
   rw[List.take_of_length_le (by omega)]at hall
   simp (disch:=omega) [zz,Tryz.f100,hpv,hall]
 ·have h4':(64:Int)<l.length:=by omega
  simp (disch:=omega) [zz,h1,h2,h3,h4',Tryz.f100,Q0,h4]
end Go.Proofs.YtcioeonlclpacaaGreatDoor
end
section
set_option maxRecDepth 100000
namespace Go.Proofs.YtcioeonlclpacaaGreatDoor
open Go Go.Ab
open Classical
variable [Sel]
def zuL:List (List UInt8)→List UInt8
 | []=>[]
 | [x]=>x
 | x::y::r=>x++47::zuL (y::r)
theorem zv1:∀(p q:List (List UInt8)),p≠[]→q≠[]→zuL (p++q)=zuL p++47::zuL q
 | [],q,h,_=>absurd rfl h
 | [x],[],_,h=>absurd rfl h
 | [x],y::r,_,_=>rfl
 | x::y::r,q,_,hq=>by
  have:=zv1 (y::r) q (by simp) hq
  show x++47::zuL (y::r++q)=_
  rw[this];simp[zuL]
theorem zuR:∀l,zuL (qT 47 l)=l
 | []=>rfl
 | b::l=>by
  have ih:=zuR l
  unfold qT
  split
  ·rename_i hb;subst hb
   cases hs:qT 47 l with
   | nil=>exact absurd hs (JJ _ _)
   | cons x r=>rw[hs]at ih;simp[zuL,ih]
  ·cases hs:qT 47 l with
   | nil=>exact absurd hs (JJ _ _)
   | cons x r =>
    rw[hs]at ih
    cases r with
    | nil=>simp only[zuL]at ih ⊢;rw[ih]
    | cons z q=>simp only[zuL]at ih ⊢;rw[←ih];rfl
theorem zuN:∀(l x:List UInt8),x∈qT 47 l→(47:UInt8)∉x
 | [],x,h=>by simp_all[qT]
 | b::l,x,h=>by
  unfold qT at h
  split at h
  ·rcases List.mem_cons.1 h with rfl|h
   ·simp
   ·exact zuN l x h
  ·rename_i hb
   cases hs:qT 47 l with
   | nil=>grind
   | cons y r =>
    rw[hs]at h
    rcases List.mem_cons.1 h with rfl|h
    ·have:=zuN l y (by rw[hs];simp)
     grind
    ·exact zuN l x (by rw[hs];simp[h])
theorem PH:∀(x:List UInt8),(47:UInt8)∉x→qT 47 x=[x]
 | [],_=>rfl
 | b::l,h=>by
  simp only[List.mem_cons,not_or]at h
  rw[qT,if_neg (fun e=>h.1 e.symm),PH l h.2]
theorem zvb:∀(a b:List UInt8),qT 47 (a++47::b)=qT 47 a++qT 47 b
 | [],b=>by simp[qT]
 | x::a,b=>by
  have ih:=zvb a b
  simp only[List.cons_append,qT]
  split
  ·rw[ih];simp
  ·rw[ih]
   cases hs:qT 47 a with
   | nil=>exact absurd hs (JJ _ _)
   | cons y r=>simp
theorem zvl:∀(p:List (List UInt8)),p≠[]→(∀x∈p,(47:UInt8)∉x)→qT 47 (zuL p)=p
 | [],h,_=>absurd rfl h
 | [x],_,h=>PH x (h x (by simp))
 | x::y::r,_,h=>by
  show qT 47 (x++47::zuL (y::r))=_
  rw[zvb,PH x (h x (by simp)),zvl (y::r) (by simp) (fun z hz=>h z (by simp[hz]))]
  rfl
def zuX (l:List UInt8):List UInt8:=if yV l=true∧(qT 47 l).length≠1 then zuL (qT 47 l).dropLast else []
theorem zvJ (l:List UInt8):yV l=true↔(qT 47 l).length≤16∧∀x∈qT 47 l,Q0 x=true:=by simp[yV]
theorem zvU {l:List UInt8} (hm:yV l=true) (h1:(qT 47 l).length≠1):∃x,l=zuX l++47::x∧(47:UInt8)∉x∧yV (zuX l)=true∧zuX l≠[]:=by
 have hne:=JJ 47 l
 have hdl:(qT 47 l).dropLast≠[]:=by
  intro h
  have:=congrArg List.length h
  grind [List.length_pos_iff]
 have hd:zuX l=zuL (qT 47 l).dropLast:=by simp_all[zuX]
 have hmem:∀x∈(qT 47 l).dropLast,x∈qT 47 l:=fun x hx=>(List.dropLast_sublist _).subset hx
 have hsp:qT 47 (zuX l)=(qT 47 l).dropLast:=by
  grind [zvl,zuN]
 rw[zvJ]at hm
 refine⟨(qT 47 l).getLast hne,?_,zuN l _ (List.getLast_mem hne),?_,?_⟩
 ·rw[hd]
  have:=zv1 (qT 47 l).dropLast [(qT 47 l).getLast hne] hdl (by simp)
  rw[List.dropLast_concat_getLast hne,zuR]at this
  exact this
 ·grind [zvJ]
 ·intro h0
  rw[h0]at hsp
  simp only[qT]at hsp
  have:=hm.2 [] (hmem [] (by grind))
  simp_all[Q0]
theorem zwp {u x d:List UInt8} (hx:(47:UInt8)∉x):Q8 (u++47::x) (d++[47])=(decide (u=d)||Q8 u (d++[47])):=by
 rw[Bool.eq_iff_iff]
 simp only[Q8,decide_eq_true_eq,Bool.or_eq_true,List.length_append,List.length_singleton]
 have key:∀l:List UInt8,l.take (d.length+1)=d++[47]↔l.take d.length=d∧l[d.length]?=some 47:=by
  intro l
  constructor
  ·intro h
   have hlen:=congrArg List.length h
   simp at hlen
   constructor
   ·have:=congrArg (List.take d.length) h
    grind
   ·have:=congrArg (·[d.length]?) h
    grind
  simp_all[List.getElem?_eq_some_iff,List.take_succ_eq_append_getElem]
 grind
theorem zwz {l d:List UInt8} (hm:yV l=true) (hp:Q8 l (d++[47])=true):yV d=true:=by
 simp only[Q8,decide_eq_true_eq]at hp
 have hl:l=d++47::l.drop (d++[47]).length:=by
  grind [List.take_append_drop]
 rw[zvJ]at hm ⊢
 rw[hl,zvb]at hm
 refine⟨by grind,fun x hx=>hm.2 x (by simp[hx])⟩
theorem zvW {l d:List UInt8} (hm:yV l=true) (hd:d≠[]):zuT l d=(decide (zuX l≠[])&&(decide (zuX l=d)||zuT (zuX l) d)):=by
 have hu:∀l,yV l=true→zuT l d=Q8 l (d++[47]):=by
  intro l hm
  simp only[zuT,hm,hd,decide_false,Bool.true_and,Bool.false_or]
  grind [zwz]
 rw[hu l hm]
 by_cases h1:(qT 47 l).length=1
 ·have hd0:zuX l=[]:=by simp[zuX,h1]
  rw[hd0]
  simp only[ne_eq,not_true_eq_false,decide_false,Bool.false_and]
  have h47:(47:UInt8)∉l:=by
   cases hs:qT 47 l with
   | nil=>simp_all
   | cons x r =>
    rw[hs]at h1
    obtain rfl:r=[]:=List.eq_nil_of_length_eq_zero (by simp_all)
    have h3:=zuR l
    rw[hs]at h3
    rw[←h3]
    exact zuN l x (by rw[hs];simp)
  cases hp:Q8 l (d++[47])with
  | false=>rfl
  | true =>
   exfalso
   simp only[Q8,decide_eq_true_eq]at hp
   grind [List.mem_of_mem_take]
 ·obtain⟨x,hl,hx,hm2,hne⟩:=zvU hm h1
  rw[hu _ hm2]
  simp only[hne,ne_eq,not_false_eq_true,decide_true,Bool.true_and]
  grind [zwp]
theorem zwv {l:List UInt8} (hne:zuX l≠[]):(zuX l).length<l.length:=by
 by_cases hm:yV l=true
 ·by_cases h1:(qT 47 l).length=1
  ·simp_all[zuX]
  ·obtain⟨x,hl,_⟩:=zvU hm h1
   grind
 simp_all[zuX]
theorem zDP {a b:Made}:qN a=qN b↔a=b:=by
 cases a;cases b;simp[qN,ziF]
theorem KB {α β:Type} (f:α→β) (l:List α) (k:Nat) (h:k<l.length):(l.map f)[k]?=some (f l[k]):=by rw[List.getElem?_map,List.getElem?_eq_getElem h];rfl
theorem C0 {α:Type} {a b:List α} (hl:a.length=b.length) (h:∀i (h1:i<a.length) (h2:i<b.length),a[i]=b[i]):a=b:=List.ext_getElem hl fun i h1 h2=>h i h1 h2
@[simp] theorem zme:qZ Tryz.prog 117=true:=by kernel_rfl
@[simp] theorem zqU:z8 Tryz.prog (.func 117)=false:=q9 zme
@[simp] theorem zlG:qZ Tryz.prog 118=true:=by kernel_rfl
@[simp] theorem zqW:z8 Tryz.prog (.func 118)=false:=q9 zlG
@[simp] theorem zos:qZ Tryz.prog 55=true:=by kernel_rfl
@[simp] theorem zrK:z8 Tryz.prog (.func 55)=false:=q9 zos
@[simp] theorem zoB:qZ Tryz.prog 15=true:=by kernel_rfl
@[simp] theorem zrV:z8 Tryz.prog (.func 15)=false:=q9 zoB
theorem zCZ:KW zc4=.agg (List.replicate 32 (.i .u8 0)):=by simp[KW,zc4]
def tr0:zaP:=⟨zc4,[],[]⟩
def zwB:List UInt8:=[111,117,116]
noncomputable def zD1:List (List UInt8)→List XF→Int
 | _,[]=>0
 | met,r::rs=>if yV r.path=false then 1 else if r.path∈met then 8 else if r.is=false∧r.sum≠zc4 then 5 else zD1 (met++[r.path]) rs
noncomputable def zD4:Option (List UInt8)→List Made→Int
 | _,[]=>0
 | none,m::ms=>if zuT m.path zwB=false then 1 else zD4 (some m.path) ms
 | some q,m::ms=>if zuT m.path zwB=false then 1 else if m.path=q then 8 else if Op.bytesLess m.path q=true then 2 else zD4 (some m.path) ms
noncomputable def zCW (t:zaP):Int:=if 500<t.reads.length∨1000<t.outs.length then 6 else if zD1 [] t.reads≠0 then zD1 [] t.reads else zD4 none t.outs
def zEh (l:List (List UInt8)):List (AV × AV):=l.map fun p=>(.s p,.b true)
theorem zEb (p:List UInt8):∀l,yY (.s p) (zEh l)=if p∈l then some (.b true) else none
 | []=>rfl
 | q::l=>by
  have:=zEb p l
  simp only[zEh,List.map_cons,yY]at this ⊢
  by_cases h:q=p
  ·simp[h]
  ·have h':¬p=q:=fun e=>h e.symm
   simp only[AV.s.injEq,h,if_false,this,List.mem_cons,h',false_or]
theorem zEk {p:List UInt8}:∀ {l},p∉l→xX (.s p) (.b true) (zEh l)=zEh (l++[p])
 | [],_=>rfl
 | q::l,h=>by
  simp only[List.mem_cons,not_or]at h
  have:=zEk (l:=l) h.2
  have h':¬q=p:=fun e=>h.1 e.symm
  simp only[zEh,List.map_cons,xX,AV.s.injEq,h',if_false]at this ⊢
  rw[this];rfl
@[simp] theorem zGs (l:List (List UInt8)):(zEh l).map (fun p=>(p.1.er,p.2.er))=zEh l:=by simp[zEh,AV.er,Function.comp_def]
def zGp (l:List XF):Prop:=l.length≤9223372036854775807∧∀r∈l,r.path.length≤9223372036854775807
def zGo (l:List Made):Prop:=l.length≤9223372036854775807∧∀r∈l,r.path.length≤9223372036854775807
set_option maxHeartbeats 8000000 in
theorem zFI (l:List XF) (hl:zGp l):PC Tryz.prog 117 [.av (.slice 105) (qF l)] (.av (.int .i64) (.i .i64 (zD1 [] l))):=by
 obtain⟨hl1,hl2⟩:=hl
 unfold PC
 refine q7.sub (R:=fun r H'=>r=.av (.int .i64) (.i .i64 (zD1 [] l))) ?_ (fun r H' hr _=>⟨[],HSub.of_sub (List.nil_sublist _),hr,rfl⟩)
 refine zov Tryz.func117 cf0 fun imm0 w0=>?_
 (simp (maxSteps:=2000000) (disch:=first|omega|assumption) [zz,qF])
 intro b
 refine AT.loop' (α:=Nat) (fun k=>St.of [(3,.av (.map 9 4) (.map (some b))),(7,.av (.slice 105) (qF l)),(8,.av (.int .i64) (.i .i64 l.length)),(9,.av (.int .i64) (.i .i64 k))] [] (fun _=>0) [(b,.map 9 4 (zEh ((l.take k).map (·.path))))])
  (fun k=>k≤l.length∧zD1 [] l=zD1 ((l.take k).map (·.path)) (l.drop k)) (fun k=>l.length-k) 0 ?_ ?_ ?_
 ·apply Le.of<;>simp[qU,qG,qO,qH,qP,qK,qF,qI,qJ,qN,qF,zEh]<;>try omega
 ·simp
 rintro k ⟨hk,hpk⟩ KL hN hE
 refine qM (cf:=cf0) laid mixed _ _ _ (by kernel_rfl) ?_
 by_cases hlt:k<l.length
 ·have hlt':(k:Int)<l.length:=by omega
  have hdr:l.drop k=l[k]::l.drop (k+1):=(List.getElem_cons_drop hlt).symm
  have htk:(l.take (k+1)).map (·.path)=(l.take k).map (·.path)++[l[k].path]:=by
   rw[List.take_succ_eq_append_getElem hlt]
   simp only[List.map_append,List.map_cons,List.map_nil]
  have hg:=KB qI l k hlt
  have hpl:=hl2 l[k] (List.getElem_mem _)
  obtain⟨r,hr⟩:∃r,r=l[k]:=⟨_,rfl⟩
  rw[←hr]at hdr htk hg hpl
  generalize hmet:(l.take k).map (·.path)=met at *
  have hfd:=zEb r.path met
  rw[hdr,zD1]at hpk
  (simp (maxSteps:=2000000) (disch:=first|omega|assumption) [zz,hlt',hg,qF,qI])
  refine zcv (DL r.path (by omega)) ?_
  cases hm:yV r.path
  ·rw[if_pos hm]at hpk
   (simp (maxSteps:=2000000) (disch:=first|omega|assumption) [zz])
   refine hE _ _ (by simp) ?_
   (simp (maxSteps:=2000000) (disch:=first|omega|assumption) [zz,Tryz.f117,hpk])
  rw[if_neg (by simp[hm])]at hpk
  by_cases hin:r.path∈met
  ·rw[if_pos hin]at hpk hfd
   (simp (maxSteps:=2000000) (disch:=first|omega|assumption) [zz,hfd])
   refine hE _ _ (by simp) ?_
   (simp (maxSteps:=2000000) (disch:=first|omega|assumption) [zz,Tryz.f117,hpk])
  rw[if_neg hin]at hpk hfd
  have hmp:=zEk hin
  cases his:r.is
  ·by_cases hz:r.sum=zc4
   ·rw[if_neg (by simp[hz])]at hpk
    (simp (maxSteps:=2000000) (disch:=first|omega|assumption) [zz,hfd,his,hz,zCZ,hmp,-List.reduceReplicate])
    refine hN _ (k+1) ?_ ⟨by omega,by rw[htk];exact hpk⟩ (by omega)
    apply Le.of<;>simp[qU,qG,qO,qH,qP,qK,qF,qI,qJ,qN,qF,htk]<;>try omega
   ·rw[if_pos ⟨his,hz⟩]at hpk
    have hz':¬r.sum.map (fun b=>AV.i .u8 b.toNat)=List.replicate 32 (.i .u8 0):=by
     intro h
     have:=zCZ
     simp only[KW,AV.agg.injEq]at this
     exact hz (zDL.1 (h.trans this.symm))
    (simp (maxSteps:=2000000) (disch:=first|omega|assumption) [zz,hfd,his,KW,hz',-List.reduceReplicate])
    refine hE _ _ (by simp) ?_
    (simp (maxSteps:=2000000) (disch:=first|omega|assumption) [zz,Tryz.f117,hpk])
  ·rw[if_neg (by simp[his])]at hpk
   (simp (maxSteps:=2000000) (disch:=first|omega|assumption) [zz,hfd,his,hmp])
   refine hN _ (k+1) ?_ ⟨by omega,by rw[htk];exact hpk⟩ (by omega)
   apply Le.of<;>simp[qU,qG,qO,qH,qP,qK,qF,qI,qJ,qN,qF,htk]<;>try omega
 ·have hlt':¬(k:Int)<l.length:=by omega
  (simp (maxSteps:=2000000) (disch:=first|omega|assumption) [zz,hlt'])
  refine hE _ _ (by simp) ?_
  rw[List.drop_of_length_le (by omega),zD1]at hpk
  (simp (maxSteps:=2000000) (disch:=first|omega|assumption) [zz,Tryz.f117,hpk])
def zEf (l:List Made) (k:Nat):Option (List UInt8):=if k=0 then none else(l[k-1]?).map (·.path)
set_option maxHeartbeats 8000000 in
theorem zFU (l:List Made) (hl:zGo l):PC Tryz.prog 118 [.av (.slice 95) (qJ l)] (.av (.int .i64) (.i .i64 (zD4 none l))):=by
 obtain⟨hl1,hl2⟩:=hl
 refine zow Tryz.func118 cf0 fun imm0 w0=>?_
 (simp (maxSteps:=2000000) (disch:=first|omega|assumption) [zz,qJ])
 refine AT.loop' (α:=Nat) (fun k=>St.of [(0,.av (.slice 95) (qJ l)),(5,.av (.slice 95) (qJ l)),(6,.av (.int .i64) (.i .i64 l.length)),(7,.av (.int .i64) (.i .i64 k))] [] (fun _=>0) [])
  (fun k=>k≤l.length∧zD4 none l=zD4 (zEf l k) (l.drop k)) (fun k=>l.length-k) 0 ?_ ?_ ?_
 ·apply Le.of<;>simp[qU,qG,qO,qH,qP,qK,qF,qI,qJ,qN,qJ]<;>try omega
 ·simp[zEf]
 rintro k ⟨hk,hpk⟩ KL hN hE
 refine qM (cf:=cf0) laid mixed _ _ _ (by kernel_rfl) ?_
 by_cases hlt:k<l.length
 ·have hlt':(k:Int)<l.length:=by omega
  have hdr:l.drop k=l[k]::l.drop (k+1):=(List.getElem_cons_drop hlt).symm
  have hpn:zEf l (k+1)=some l[k].path:=by simp[zEf,List.getElem?_eq_getElem hlt]
  have hg:=KB qN l k hlt
  have hpl:=hl2 l[k] (List.getElem_mem _)
  by_cases h0:k=0
  ·have h0':¬0<k:=by omega
   obtain⟨m,hm⟩:∃m,m=l[k]:=⟨_,rfl⟩
   rw[←hm]at hdr hpn hg hpl
   rw[hdr,zEf,if_pos h0,zD4]at hpk
   (simp (maxSteps:=2000000) (disch:=first|omega|assumption) [zz,hlt',hg,qJ,qN])
   refine qL (zE6 m.path zwB (by omega) (by decide)) rfl rfl (by simp) (by simp[qS,TV.er,AV.er,coC,zwB]) ?_
   cases hu:zuT m.path zwB
   ·rw[if_pos hu]at hpk
    (simp (maxSteps:=2000000) (disch:=first|omega|assumption) [zz])
    refine hE _ _ (by simp) ?_
    (simp (maxSteps:=2000000) (disch:=first|omega|assumption) [zz,Tryz.f118,hpk])
   ·rw[if_neg (by simp[hu])]at hpk
    (simp (maxSteps:=2000000) (disch:=first|omega|assumption) [zz,h0'])
    refine hN _ (k+1) ?_ ⟨by omega,by rw[hpn];exact hpk⟩ (by omega)
    apply Le.of<;>simp[qU,qG,qO,qH,qP,qK,qF,qI,qJ,qN,qJ]<;>try omega
  ·have h0':0<k:=by omega
   have hk1:k-1<l.length:=by omega
   have hk1':(k:Int)-1<l.length:=by omega
   have hk1'':(1:Int)≤k:=by omega
   have hgp:=KB qN l (k-1) hk1
   have hprev:zEf l k=some l[k-1].path:=by simp[zEf,h0,List.getElem?_eq_getElem hk1]
   obtain⟨q,hq⟩:∃q,q=l[k-1]:=⟨_,rfl⟩
   obtain⟨m,hm⟩:∃m,m=l[k]:=⟨_,rfl⟩
   rw[←hm]at hdr hpn hg hpl
   rw[←hq]at hgp hprev
   rw[hdr,hprev,zD4]at hpk
   (simp (maxSteps:=2000000) (disch:=first|omega|assumption) [zz,hlt',hg,qJ,qN])
   refine qL (zE6 m.path zwB (by omega) (by decide)) rfl rfl (by simp) (by simp[qS,TV.er,AV.er,coC,zwB]) ?_
   cases hu:zuT m.path zwB
   ·rw[if_pos hu]at hpk
    (simp (maxSteps:=2000000) (disch:=first|omega|assumption) [zz])
    refine hE _ _ (by simp) ?_
    (simp (maxSteps:=2000000) (disch:=first|omega|assumption) [zz,Tryz.f118,hpk])
   rw[if_neg (by simp[hu])]at hpk
   by_cases he:m.path=q.path
   ·rw[if_pos he]at hpk
    (simp (maxSteps:=2000000) (disch:=first|omega|assumption) [zz,h0',hk1',hk1'',hgp,he,qN])
    (repeat with_reducible refine om ?_)
    refine hE _ _ (by simp) ?_
    (simp (maxSteps:=2000000) (disch:=first|omega|assumption) [zz,Tryz.f118,hpk])
   rw[if_neg he]at hpk
   cases hbl:Op.bytesLess m.path q.path
   ·rw[if_neg (by simp[hbl])]at hpk
    (simp (maxSteps:=2000000) (disch:=first|omega|assumption) [zz,h0',hk1',hk1'',hgp,he,qN,hbl])
    (repeat with_reducible refine om ?_)
    refine hN _ (k+1) ?_ ⟨by omega,by rw[hpn];exact hpk⟩ (by omega)
    apply Le.of<;>simp[qU,qG,qO,qH,qP,qK,qF,qI,qJ,qN,qJ]<;>try omega
   ·rw[if_pos hbl]at hpk
    (simp (maxSteps:=2000000) (disch:=first|omega|assumption) [zz,h0',hk1',hk1'',hgp,he,qN,hbl])
    (repeat with_reducible refine om ?_)
    refine hE _ _ (by simp) ?_
    (simp (maxSteps:=2000000) (disch:=first|omega|assumption) [zz,Tryz.f118,hpk])
 ·have hlt':¬(k:Int)<l.length:=by omega
  (simp (maxSteps:=2000000) (disch:=first|omega|assumption) [zz,hlt'])
  refine hE _ _ (by simp) ?_
  rw[List.drop_of_length_le (by omega)]at hpk
  have hz:∀o,zD4 o []=0:=fun o=>by cases o<;>rfl
  rw[hz]at hpk
  (simp (maxSteps:=2000000) (disch:=first|omega|assumption) [zz,Tryz.f118,hpk])
def TrP (t:zaP):Prop:=zGp t.reads∧zGo t.outs
set_option maxHeartbeats 4000000 in
theorem zDX (t:zaP) (ht:TrP t):PC Tryz.prog 55 [.av (qD Tryz.prog 49) (qK t)] (.av (.int .i64) (.i .i64 (zCW t))):=by
 refine zow Tryz.func55 cf0 fun imm0 w0=>?_
 by_cases h1:500<t.reads.length
 ·have h1':(500:Int)<t.reads.length:=by omega
  (simp (maxSteps:=2000000) (disch:=first|omega|assumption) [zz,qK,qF,qJ,h1',Tryz.f55,zCW,h1])
 have h1':¬(500:Int)<t.reads.length:=by omega
 by_cases h2:1000<t.outs.length
 ·have h2':(1000:Int)<t.outs.length:=by omega
  (simp (maxSteps:=2000000) (disch:=first|omega|assumption) [zz,qK,qF,qJ,h1',h2',Tryz.f55,zCW,h1,h2])
 have h2':¬(1000:Int)<t.outs.length:=by omega
 (simp (maxSteps:=2000000) (disch:=first|omega|assumption) [zz,qK,qF,qJ,h1',h2'])
 refine qL (zFI t.reads ht.1) rfl rfl (by simp) (by simp[qS,TV.er,AV.er,AV.ers_eq,Function.comp_def,qF]) ?_
 by_cases h3:zD1 [] t.reads=0
 ·(simp (maxSteps:=2000000) (disch:=first|omega|assumption) [zz,h3])
  refine qL (zFU t.outs ht.2) rfl rfl (by simp) (by simp[qS,TV.er,AV.er,AV.ers_eq,Function.comp_def,qJ]) ?_
  (simp (maxSteps:=2000000) (disch:=first|omega|assumption) [zz,Tryz.f55,zCW,h1,h2,h3])
 ·(simp (maxSteps:=2000000) (disch:=first|omega|assumption) [zz,h3,Tryz.f55,zCW,h1,h2])
end Go.Proofs.YtcioeonlclpacaaGreatDoor
end
