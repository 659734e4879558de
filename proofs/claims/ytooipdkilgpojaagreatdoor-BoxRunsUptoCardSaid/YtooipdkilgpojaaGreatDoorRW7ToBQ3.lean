/- The document's tool: its small functions. No condition beyond each theorem's own. -/
import Derived.Test.YtooipdkilgpojaaGreatDoorTK1ToRW6
import Derived.Test.YtooipdkilgpojaaGreatDoorRW3ToGB1
import Derived.Test.YtooipdkilgpojaaGreatDoorBE0
set_option linter.unusedSimpArgs false
set_option linter.unusedVariables false
set_option linter.unusedSectionVars false
section
set_option maxRecDepth 100000
namespace Go.Proofs.YtooipdkilgpojaaGreatDoor
open Go Go.Ab
open Classical
variable [Sel] [SelPow] [SelMax]
@[simp] theorem zme:qZ Tryz.prog 117=true:=by kernel_rfl
@[simp] theorem zqU:z8 Tryz.prog (.func 117)=false:=q9 zme
@[simp] theorem zzP:qZ Tryz.prog 157=true:=by kernel_rfl
@[simp] theorem zBg:z8 Tryz.prog (.func 157)=false:=q9 zzP
@[simp] theorem zkN:qZ Tryz.prog 203=true:=by kernel_rfl
@[simp] theorem zqS:z8 Tryz.prog (.func 203)=false:=q9 zkN
@[simp] theorem zm2:qZ Tryz.prog 161=true:=by kernel_rfl
@[simp] theorem zqj:z8 Tryz.prog (.func 161)=false:=q9 zm2
@[simp] theorem zlB:qZ Tryz.prog 204=true:=by kernel_rfl
@[simp] theorem zqG:z8 Tryz.prog (.func 204)=false:=q9 zlB
@[simp] theorem zmg:qZ Tryz.prog 160=true:=by kernel_rfl
@[simp] theorem zqm:z8 Tryz.prog (.func 160)=false:=q9 zmg
@[simp] theorem zlc:qZ Tryz.prog 206=true:=by kernel_rfl
@[simp] theorem zqE:z8 Tryz.prog (.func 206)=false:=q9 zlc
@[simp] theorem zl6:qZ Tryz.prog 159=true:=by kernel_rfl
@[simp] theorem zq7:z8 Tryz.prog (.func 159)=false:=q9 zl6
@[simp] theorem zkG:qZ Tryz.prog 205=true:=by kernel_rfl
@[simp] theorem zr6:z8 Tryz.prog (.func 205)=false:=q9 zkG
@[simp] theorem zlP:qZ Tryz.prog 162=true:=by kernel_rfl
@[simp] theorem zpX:z8 Tryz.prog (.func 162)=false:=q9 zlP
@[simp] theorem zzZ:qZ Tryz.prog 156=true:=by kernel_rfl
@[simp] theorem zB1:z8 Tryz.prog (.func 156)=false:=q9 zzZ
@[simp] theorem zkZ:qZ Tryz.prog 158=true:=by kernel_rfl
@[simp] theorem zqd:z8 Tryz.prog (.func 158)=false:=q9 zkZ
@[simp] theorem zlG:qZ Tryz.prog 118=true:=by kernel_rfl
@[simp] theorem zqW:z8 Tryz.prog (.func 118)=false:=q9 zlG
@[simp] theorem zx2:qZ Tryz.prog 73=true:=by kernel_rfl
@[simp] theorem zxA:z8 Tryz.prog (.func 73)=false:=q9 zx2
@[simp] theorem zwV:qZ Tryz.prog 36=true:=by kernel_rfl
@[simp] theorem zxu:z8 Tryz.prog (.func 36)=false:=q9 zwV
abbrev StT:TyD:=.struct [9,25,94,53]
def zGl (l:List DoV):AV:=.sl .no (l.map jG)
def K0 (s:StV):AV:=.agg [.s s.buf,.sl .no (strs s.asked),zGl s.wrote,jG s.stop]
@[simp] theorem zHv (d:DoV):(jG d).er=jG d:=by simp[jG,AV.er,AV.ers]
@[simp] theorem zGp (l:List DoV):(zGl l).er=zGl l:=by simp[zGl,AV.er,AV.ers_eq,Function.comp_def]
@[simp] theorem zGn (s:StV):(K0 s).er=K0 s:=by simp[K0,AV.er,AV.ers,strs,AV.ers_eq,Function.comp_def]
theorem zGv (s:StV) (e:Int):PC Tryz.prog 117 [.av StT (K0 s),.av (.int .i64) (.i .i64 e)] (.av StT (K0 (yZ e s))):=by
 have h1:AV.ers (strs s.asked)=strs s.asked:=by simp[strs,AV.ers_eq,Function.comp_def,AV.er]
 have h2:=zGp s.wrote
 refine zow Tryz.func117 cf0 fun imm0 w0=>?_
 simp (disch:=omega) [zz,K0]
 simp (disch:=omega) [zz,K0,jG,yZ,h1,h2,Tryz.f117]
theorem zGu (s:StV) (t:Txt) (h1:s.buf.length≤1000000000) (h2:t.length≤1000000000):PC Tryz.prog 157 [.av StT (K0 s),.av .str (.s t)] (.av StT (K0 (yP t s))):=by
 have hs:=zGn s
 have he:=zGn (yP t s)
 have hf:=zGv s 6
 have h3:=zGp s.wrote
 have h4:=zHv s.stop
 have h5:AV.ers (strs s.asked)=strs s.asked:=by simp[strs,AV.ers_eq,Function.comp_def,AV.er]
 refine zow Tryz.func157 cf0 fun imm0 w0=>?_
 by_cases hb:65536<s.buf.length+t.length
 ·have hb':(65536:Int)<(s.buf.length:Int)+t.length:=by omega
  have hv:yP t s=yZ 6 s:=by unfold yP;rw[if_pos hb]
  rw[hv]at he ⊢
  simp (disch:=omega) [zz,K0,hb']
  refine qL hf rfl rfl (by simp) (by simp[qS,coC,TV.er,AV.er,AV.ers,K0,h3,h4,h5]) ?_
  simp (disch:=omega) [zz,he,Tryz.f157]
  rfl
 ·have hb':¬(65536:Int)<(s.buf.length:Int)+t.length:=by omega
  have hv:yP t s={ s with buf:=s.buf++t }:=by unfold yP;rw[if_neg hb]
  rw[hv]
  simp (disch:=omega) [zz,K0,hb']
  (repeat with_reducible refine om ?_)
  simp (disch:=omega) [zz,K0,h3,h4,h5,Tryz.f157]
theorem zHS (l:List Txt) (t:Txt) (hl:l.length≤1000000000):PC Tryz.prog 203 [.av (.slice 9) (.sl .no (strs l)),.av .str (.s t)] (.av .bool (.b (decide (t∈l)))):=by
 refine zow Tryz.func203 cf0 fun imm0 w0=>?_
 simp (disch:=omega) [zz]
 refine AT.loop' (α:=Nat) (fun k=>St.of [(0,.av (.slice 9) (.sl .no (strs l))),(1,.av .str (.s t)),(5,.av (.int .i64) (.i .i64 k))] [] (fun _=>0) [])
  (fun k=>k≤l.length∧t∉l.take k) (fun k=>l.length-k) 0 ?_ ?_ ?_
 ·apply Le.of<;>simp[qU,qG,zX]<;>try omega
 ·simp
 rintro k ⟨hk,hno⟩ KL hN hE
 refine qM (cf:=cf0) laid mixed _ _ _ (by kernel_rfl) ?_
 by_cases hlt:k<l.length
 ·have hlt':(k:Int)<l.length:=by omega
  have hg:=yH l k hlt
  by_cases hc:l[k]=t
  ·have hin:t∈l:=hc▸List.getElem_mem hlt
   simp (disch:=omega) [zz,hlt',hg,hc,qX]
   refine hE _ _ (by simp) ?_
   simp (disch:=omega) [zz,hin,Tryz.f203]
  ·simp (disch:=omega) [zz,hlt',hg,hc,qX]
   refine hN _ (k+1) ?_ ⟨by omega,fun h=>?_⟩ (by omega)
   ·apply Le.of<;>simp[qU,qG,qX]<;>try omega
   ·rw[List.take_succ_eq_append_getElem hlt]at h
    rcases List.mem_append.1 h with h|h
    ·exact hno h
    ·exact hc (List.mem_singleton.1 h).symm
 ·have hlt':¬(k:Int)<l.length:=by omega
  rw[List.take_of_length_le (by omega)]at hno
  simp (disch:=omega) [zz,hlt',qX]
  refine hE _ _ (by simp) ?_
  simp (disch:=omega) [zz,hno,Tryz.f203]
theorem zHK (l:List Txt) (k:Nat) (h:k<l.length):zfi (l.take (k+1))=zfi (l.take k)++l[k]++[10]:=by
 unfold zfi
 rw[List.take_succ_eq_append_getElem h,List.flatMap_append]
 simp
theorem zHF (l:List Txt) (k:Nat):(zfi (l.take k)).length≤(zfi l).length:=by
 unfold zfi
 conv=>rhs;rw[←List.take_append_drop k l,List.flatMap_append,List.length_append]
 omega
theorem zGE (l:List Txt) (hl:l.length≤1000000000) (hw:(zfi l).length≤1000000000000):PC Tryz.prog 161 [.av (.slice 9) (.sl .no (strs l))] (.av .str (.s (zfi l))):=by
 refine zow Tryz.func161 cf0 fun imm0 w0=>?_
 simp (disch:=omega) [zz]
 refine AT.loop' (α:=Nat) (fun k=>St.of [(0,.av (.slice 9) (.sl .no (strs l))),(3,.av .str (.s (zfi (l.take k)))),(4,.av (.int .i64) (.i .i64 k))] [] (fun _=>0) [])
  (fun k=>k≤l.length) (fun k=>l.length-k) 0 ?_ ?_ ?_
 ·apply Le.of<;>simp[qU,qG,zfi]<;>try omega
 ·omega
 rintro k hk KL hN hE
 refine qM (cf:=cf0) laid mixed _ _ _ (by kernel_rfl) ?_
 by_cases hlt:k<l.length
 ·have hlt':(k:Int)<l.length:=by omega
  have hg:=yH l k hlt
  have hs:=zHK l k hlt
  have ht:=zHF l (k+1)
  obtain⟨q,hq⟩:∃q,q=zfi (l.take k):=⟨_,rfl⟩
  rw[←hq]at hs ⊢
  rw[hs,List.length_append,List.length_append,List.length_singleton]at ht
  simp (disch:=omega) [zz,hlt',hg,qX]
  (repeat with_reducible refine om ?_)
  refine hN _ (k+1) ?_ (by omega) (by omega)
  apply Le.of<;>simp[qU,qG,qX,hs]<;>try omega
 ·have hlt':¬(k:Int)<l.length:=by omega
  rw[List.take_of_length_le (by omega)]
  simp (disch:=omega) [zz,hlt',qX]
  refine hE _ _ (by simp) ?_
  simp (disch:=omega) [zz,Tryz.f161]
theorem zIg {l w:List UInt8} {i:Nat} (h:i+w.length≤l.length):(l.take (i+w.length)).drop i=w↔Lib.occAt l w i=true:=by
 unfold Lib.occAt
 rw[List.isPrefixOf_iff_prefix,List.drop_take,Nat.add_sub_cancel_left]
 constructor
 ·intro e
  rw[←e]
  exact List.take_prefix _ _
 ·rintro⟨r,hr⟩
  rw[←hr,List.take_left]
theorem zHE (l w:Txt) (hl:l.length≤1000000000) (hw:w.length≤1000000000):PC Tryz.prog 204 [.av .str (.s l),.av .str (.s w)] (.av .bool (.b (Lib.contains l w))):=by
 refine zow Tryz.func204 cf0 fun imm0 w0=>?_
 simp (disch:=omega) [zz]
 refine AT.loop' (α:=Nat) (fun k=>St.of [(0,.av .str (.s l)),(1,.av .str (.s w)),(5,.av (.int .i64) (.i .i64 k))] [] (fun _=>0) [])
  (fun k=>k≤l.length+1∧∀j,j<k→Lib.occAt l w j=false) (fun k=>l.length+1-k) 0 ?_ ?_ ?_
 ·apply Le.of<;>simp[qU,qG,zX]<;>try omega
 ·exact⟨by omega,fun j hj=>by omega⟩
 rintro k ⟨hk,hno⟩ KL hN hE
 refine qM (cf:=cf0) laid mixed _ _ _ (by kernel_rfl) ?_
 by_cases hlt:k+w.length≤l.length
 ·have hlt':(k:Int)+w.length≤l.length:=by omega
  have hoc:=zIg hlt
  by_cases hc:(l.take (k+w.length)).drop k=w
  ·have ho:=hoc.1 hc
   have hv:Lib.contains l w=true:=by
    unfold Lib.contains
    rcases Lib.index_spec l w with⟨h1,h2⟩|⟨i,h1,_⟩
    ·rw[h2 k (by omega)]at ho;cases ho
    ·rw[h1];simp
   simp (disch:=omega) [zz,hlt',hc]
   (repeat with_reducible refine om ?_)
   refine hE _ _ (by simp) ?_
   simp (disch:=omega) [zz,hv,Tryz.f204]
  ·have ho:Lib.occAt l w k=false:=by
    cases h:Lib.occAt l w k with
    | false=>rfl
    | true=>exact absurd (hoc.2 h) hc
   simp (disch:=omega) [zz,hlt',hc]
   (repeat with_reducible refine om ?_)
   refine hN _ (k+1) ?_ ⟨by omega,fun j hj=>?_⟩ (by omega)
   ·apply Le.of<;>simp[qU,qG,zX]<;>try omega
   ·rcases Nat.lt_or_ge j k with h|h
    ·exact hno j h
    ·obtain rfl:j=k:=by omega
     exact ho
 ·have hlt':¬(k:Int)+w.length≤l.length:=by omega
  have hv:Lib.contains l w=false:=by
   unfold Lib.contains
   have:Lib.index l w=-1:=by
    rcases Lib.index_spec l w with⟨h1,_⟩|⟨i,h1,h2,h3,_⟩
    ·exact h1
    ·have hr:=Lib.index_room l w (by rw[h1];omega)
     rw[h1]at hr
     rw[hno i (by omega)]at h3;cases h3
   rw[this];simp
  simp (disch:=omega) [zz,hlt']
  refine hE _ _ (by simp) ?_
  simp (disch:=omega) [zz,hv,Tryz.f204]
def tkK (d:Nat):Nat→Tok
 | 0=>.full
 | k+1=>.own d (k+1)
abbrev zIy:Cfg:=⟨fun _=>false,fun _=>false⟩
theorem zIe {α:Type} (P:α→Bool) (l:List α) (k:Nat) (h:k<l.length):(l.take (k+1)).filter P=(l.take k).filter P++if P l[k]=true then [l[k]] else []:=by
 rw[List.take_succ_eq_append_getElem h,List.filter_append]
 by_cases hp:P l[k]=true
 ·simp[hp]
 ·simp[hp]
set_option maxHeartbeats 8000000 in
theorem zHt (l:List Txt) (w:Txt) (hl:l.length≤1000000) (he:∀x∈l,x.length≤1000000000) (hw:w.length≤1000000000):PC Tryz.prog 160 [.av (.slice 9) (.sl .no (strs l)),.av .str (.s w)] (.av (.slice 9) (.sl .no (strs (l.filter fun x=>Lib.contains x w)))):=by
 refine zow Tryz.func160 zIy fun imm0 w0=>?_
 simp (disch:=omega) [zz]
 refine AT.loop' (α:=Nat × List Txt) (fun x=>St.of [(0,.av (.slice 9) (.sl .no (strs l))),(1,.av .str (.s w)),(5,.av (.slice 9) (.sl (tkK 25 x.2.length) (strs x.2))),(6,.av (.int .i64) (.i .i64 x.1))] [] (fun j=>if j=25 then x.2.length else 0) [])
  (fun x=>x.1≤l.length∧x.2=(l.take x.1).filter fun x=>Lib.contains x w) (fun x=>l.length-x.1) (0,[]) ?_ ?_ ?_
 ·apply Le.of<;>simp[qU,qG,tkK,strs]<;>try omega
 ·exact⟨by simp only;omega,rfl⟩
 rintro⟨k,L⟩ ⟨hk,hL⟩ KL hN hE
 simp only at hk hL hN
 refine qM (cf:=zIy) laid mixed _ _ _ (by kernel_rfl) ?_
 by_cases hlt:k<l.length
 ·have hlt':(k:Int)<l.length:=by omega
  have hg:=yH l k hlt
  have hfs:=zIe (fun x=>Lib.contains x w) l k hlt
  rw[←hL]at hfs
  have hLl:L.length≤k:=by rw[hL];exact Nat.le_trans (List.length_filter_le _ _) (List.length_take_le _ _)
  have hxl:=he _ (List.getElem_mem hlt)
  obtain⟨q,hq⟩:∃q,q=l[k]:=⟨_,rfl⟩
  rw[←hq]at hg hfs hxl
  have hwi:=zHE q w hxl hw
  simp (disch:=omega) [zz,hlt',hg,qX]
  refine zcv hwi ?_
  cases hc:Lib.contains q w with
  | true =>
   rw[if_pos hc]at hfs
   cases L with
   | nil =>
    simp (disch:=omega) [zz,hlt',hg,qX,tkK]
    simp (disch:=omega) [zz,wB]
    (repeat with_reducible refine om ?_)
    refine hN _ (k+1,[q]) ?_ ⟨by simp only;omega,by simpa using hfs.symm⟩ (by simp only;omega)
    apply Le.of<;>simp[qU,qG,tkK,strs]<;>try omega
   | cons y L =>
    simp only[List.length_cons]at hLl
    simp (disch:=omega) [zz,hlt',hg,qX,tkK,strs,←hq]
    simp (disch:=omega) [zz,wB]
    (repeat with_reducible refine om ?_)
    refine hN _ (k+1,(y::L)++[q]) ?_ ⟨by simp only;omega,hfs.symm⟩ (by simp only;omega)
    apply Le.of<;>simp[qU,qG,tkK,strs]<;>try omega
    all_goals (intro j;by_cases hj:j=25<;>simp[hj])
  | false =>
   rw[if_neg (by rw[hc];decide),List.append_nil]at hfs
   simp (disch:=omega) [zz]
   refine hN _ (k+1,L) ?_ ⟨by simp only;omega,hfs.symm⟩ (by simp only;omega)
   apply Le.of<;>simp[qU,qG,zX]<;>try omega
 ·have hkn:k=l.length:=by omega
  subst hkn
  have hlt':¬(l.length:Int)<l.length:=by omega
  rw[List.take_length]at hL
  simp (disch:=omega) [zz,hlt',qX]
  refine hE _ _ (by simp) ?_
  have hes:AV.ers (strs L)=strs L:=zjB L
  simp (disch:=omega) [zz,←hL,hes,Tryz.f160]
theorem zH9 (u:Nat):(Lib.decDigits u).length≤u+1:=by
 induction u using Nat.strongRecOn with
 | _ u ih =>
  rw[Lib.decDigits]
  split
  ·simp
  ·have:=ih (u / 10) (by omega)
   simp only[List.length_append,List.length_singleton]
   omega
theorem zGI:∀(n:Nat) (u:Nat),u≤n→u≤1000000000→PC Tryz.prog 206 [.av (.int .i64) (.i .i64 u)] (.av .str (.s (Lib.decDigits u)))
 | 0,u,hn,hu=>by
  obtain rfl:u=0:=by omega
  have hd:Lib.decDigits 0=[48]:=by rw[Lib.decDigits];rfl
  refine zow Tryz.func206 cf0 fun imm0 w0=>?_
  simp (disch:=omega) [zz,hd,Tryz.f206]
 | n+1,u,hn,hu=>by
  by_cases h10:u<10
  ·have hc:u=0∨u=1∨u=2∨u=3∨u=4∨u=5∨u=6∨u=7∨u=8∨u=9:=by omega
   rw[Lib.decDigits,dif_pos h10]
   rcases hc with rfl|rfl|rfl|rfl|rfl|rfl|rfl|rfl|rfl|rfl
   all_goals
    refine zow Tryz.func206 cf0 fun imm0 w0=>?_
    simp (disch:=omega) [zz,Tryz.f206]
  ·have h10':¬(u:Int)<10:=by omega
   have hd:Lib.decDigits u=Lib.decDigits (u / 10)++[UInt8.ofNat (48+u % 10)]:=by rw[Lib.decDigits,dif_neg h10]
   have hd2:Lib.decDigits (u % 10)=[UInt8.ofNat (48+u % 10)]:=by rw[Lib.decDigits,dif_pos (by omega)]
   have i1:=zGI n (u / 10) (by omega) (by omega)
   have i2:=zGI n (u % 10) (by omega) (by omega)
   rw[hd2]at i2
   refine zow Tryz.func206 cf0 fun imm0 w0=>?_
   have hl:=zH9 (u / 10)
   obtain⟨d,hdd⟩:∃d,d=u / 10:=⟨_,rfl⟩
   obtain⟨r,hrr⟩:∃r,r=u % 10:=⟨_,rfl⟩
   have hq:(u:Int) / 10=(d:Int):=by omega
   have hr:(u:Int) % 10=(r:Int):=by omega
   have hdu:d≤1000000000:=by omega
   have hr2:(u:Int).tmod 10=(r:Int):=by rw[Int.tmod_eq_emod_of_nonneg (by omega)];exact hr
   rw[←hdd]at hd i1 hl
   rw[←hrr]at hd i2
   simp (disch:=omega) [zz,h10',hq]
   refine zcv i1 ?_
   simp (disch:=omega) [zz,hr,hr2]
   refine zcv i2 ?_
   simp (disch:=omega) [zz]
   (repeat with_reducible refine om ?_)
   simp (disch:=omega) [zz,hd,Tryz.f206]
def flD (d:DoV):U1:=⟨d.path,d.data⟩
def ltF (p:Txt) (f:U1):Bool:=Op.bytesLess f.path p
def gtF (p:Txt) (f:U1):Bool:=!(Op.bytesLess f.path p||decide (f.path=p))
def zH2 (x:U1) (o:List U1):List U1:=o.filter (ltF x.path)++x::o.filter (gtF x.path)
def zGq (l:List DoV):List U1:=l.foldl (fun o d=>zH2 (flD d) o) []
theorem zHq (l:List DoV) (k:Nat) (h:k<l.length):zGq (l.take (k+1))=zH2 (flD l[k]) (zGq (l.take k)):=by
 grind [zGq,List.take_succ_eq_append_getElem]
theorem zIk {p:Txt} {f:U1}:ltF p f=true↔f.path<p:=by simp[ltF,Go.Proofs.bytesLess_eq]
theorem zHT {p:Txt} {f:U1}:gtF p f=true↔p<f.path:=by
 unfold gtF
 grind [Go.Proofs.bytesLess_eq]
theorem zI0 {x:U1} {o:List U1} (h:∀f∈o,f.path≠x.path):(zH2 x o).Perm (x::o):=by
 unfold zH2
 refine List.perm_middle.trans ((List.Perm.cons x) ?_)
 have:o.filter (gtF x.path)=o.filter (fun f=>!ltF x.path f):=List.filter_congr fun f hf=>by
  simp_all[gtF,ltF]
 simp_all[List.filter_append_perm]
theorem zI1 {x:U1} {o:List U1} (h:zea (o.map (·.path))):zea ((zH2 x o).map (·.path)):=by
 unfold zea zH2 at *
 rw[List.map_append,List.map_cons]
 have hs:∀g:U1→Bool,((o.filter g).map (·.path)).Pairwise fun a b=>a<b:=fun g=>h.sublist ((List.filter_sublist).map _)
 refine List.pairwise_append.2 ⟨hs _,List.pairwise_cons.2 ⟨fun p hp=>?_,hs _⟩,fun a ha c hc=>?_⟩
 ·obtain⟨f,hf,rfl⟩:=List.mem_map.1 hp
  simp_all[zHT]
 ·obtain⟨f,hf,rfl⟩:=List.mem_map.1 ha
  have h1:=zIk.1 (List.mem_filter.1 hf).2
  rcases List.mem_cons.1 hc with rfl|hc
  ·exact h1
  ·obtain⟨g,hg,rfl⟩:=List.mem_map.1 hc
   grind [zHT]
theorem zI6:∀(l:List DoV) (o:List U1),(l.map (·.path)).Nodup→(∀d∈l,∀f∈o,f.path≠d.path)→zea (o.map (·.path))→
  (l.foldl (fun o d=>zH2 (flD d) o) o).Perm (l.map flD++o)∧zea ((l.foldl (fun o d=>zH2 (flD d) o) o).map (·.path))
 | [],o,_,_,hr=>⟨by simp,hr⟩
 | d::l,o,hn,hd,hr=>by
  rw[List.map_cons,List.nodup_cons]at hn
  have hp:=zI0 (x:=flD d) (o:=o) (hd d (by simp))
  obtain⟨h1,h2⟩:=zI6 l (zH2 (flD d) o) hn.2 (fun e he f hf=>by
   rcases List.mem_cons.1 (hp.mem_iff.1 hf)with rfl|hf
   ·exact fun h=>hn.1 (List.mem_map.2 ⟨e,he,h.symm⟩)
   simp_all) (zI1 hr)
  grind
theorem zGG {l:List DoV} (h:(l.map (·.path)).Nodup):(zGq l).Perm (l.map flD)∧zea ((zGq l).map (·.path)):=by
 have:=zI6 l [] h (by simp) List.Pairwise.nil
 rw[List.append_nil]at this
 exact this
theorem zHR:∀ {wr:List DoV},(wr.map (·.path)).Nodup→∀w∈wr,(wr.map pdW).find? (fun x=>decide (x.1=w.path))=some (pdW w)
 | [],_,w,hw=>by cases hw
 | d::wr,hn,w,hw=>by
  rw[List.map_cons,List.nodup_cons]at hn
  rw[List.map_cons,List.find?_cons]
  rcases List.mem_cons.1 hw with rfl|hw
  ·simp[pdW]
  ·have:¬(pdW d).1=w.path:=fun e=>hn.1 (List.mem_map.2 ⟨w,hw,e.symm⟩)
   simp only[this,decide_false]
   exact zHR hn.2 w hw
theorem zHD {b:zGo} {wr:List DoV} (hn:(wr.map (·.path)).Nodup) (hw:b.wrote=wr.map pdW):ZH b=zGq wr:=by
 obtain⟨f1,f2⟩:=zGG hn
 have hwp:=GC hw
 have hp:(ZH b).map (·.path)=kK (b.wrote.map (·.1)):=by
  unfold ZH
  rw[List.map_map]
  exact List.map_id' _
 have hr:zea ((ZH b).map (·.path)):=by grind [zf5]
 have hpe:(ZH b).Perm (zGq wr):=by
  refine List.Perm.trans ?_ f1.symm
  unfold ZH
  refine((W0 _).map _).trans ?_
  rw[hw,List.map_map,List.map_map]
  grind [List.map_congr_left,zHR,pdW,flD]
 grind [zea,List.Perm.eq_of_pairwise]
@[simp] theorem zIo:qZ Tryz.prog 37=true:=by kernel_rfl
@[simp] theorem zIB:z8 Tryz.prog (.func 37)=false:=q9 zIo
noncomputable def wrD (outs:List Txt) (l:List DoV):List U1 × Bool:=if zfw outs l then(zGq l,true) else([],false)
theorem zHL {outs:List Txt} {l:List DoV} {k:Nat} (h:k<l.length) (hr:zfw outs (l.take k)) (h1:l[k].path∈outs) (h2:∀y∈l.take k,y.path≠l[k].path):zfw outs (l.take (k+1)):=by
 rw[List.take_succ_eq_append_getElem h]
 refine⟨?_,fun w hw=>?_⟩
 ·rw[List.map_append]
  refine List.nodup_append.2 ⟨hr.1,by simp,fun p hp q hq=>?_⟩
  simp only[List.map_cons,List.map_nil,List.mem_singleton]at hq
  subst hq
  obtain⟨y,hy,rfl⟩:=List.mem_map.1 hp
  exact h2 y hy
 ·rcases List.mem_append.1 hw with hw|hw
  ·exact hr.2 w hw
  ·rw[List.mem_singleton.1 hw];exact h1
theorem GJ (g:U1→Bool) (l:List U1) (j:Nat) (h:j<l.length):(l.take (j+1)).filter g=(l.take j).filter g++(if g l[j]=true then [l[j]] else []):=by
 rw[List.take_succ_eq_append_getElem h,List.filter_append]
 split
 ·rename_i hg;simp[hg]
 ·rename_i hg;simp[hg]
abbrev zIb:Cfg:=⟨fun _=>false,fun _=>false⟩
set_option maxHeartbeats 32000000 in
theorem zHY (a:xW) (l:List DoV) (ho:a.outs.length≤1000000) (hl:l.length≤1000000) :
  PC Tryz.prog 37 [.av UI (kT a),.av (.slice 53) (zGl l)] (.tup [(.slice 63,zU (wrD a.outs l).1),(.bool,.b (wrD a.outs l).2)]):=by
 have hno:∀k (h:k<l.length),¬zfw a.outs (l.take (k+1))→(wrD a.outs l)=([],false):=fun k h hr=>by
  unfold wrD
  rw[if_neg fun h2=>hr ⟨(h2.1.sublist ((List.take_sublist _ _).map _)),fun w hw=>h2.2 w (List.mem_of_mem_take hw)⟩]
 obtain⟨A,hA⟩:∃A,A=kT a:=⟨_,rfl⟩
 have hA5:A=.agg [.agg [.s a.pkg,.s a.name],.s a.tool,zS a.env,.sl .no (strs a.ins),.sl .no (strs a.asks),.sl .no (strs a.outs)]:=hA
 rw[←hA]
 refine zow Tryz.func37 zIb fun imm0 w0=>?_
 simp (disch:=omega) [zz,zGl]
 refine AT.loopV (α:=Nat) (fun k ver=>St.of [(1,.av (.slice 53) (zGl l)),(2,.loc 2 []),(6,.av (.slice 63) (zU (zGq (l.take k)))),(17,.av (.slice 53) (zGl l)),(18,.av (.int .i64) (.i .i64 l.length)),(19,.av (.int .i64) (.i .i64 k))] [(2,(UI,A))] ver [])
  (fun k=>k≤l.length∧zfw a.outs (l.take k)) (fun k=>l.length-k) 0 ?_ ?_ ?_
 ·apply Le.of<;>simp[qU,qG,zX,zGl,zU,zGq]<;>try omega
 ·exact⟨by omega,by simp[zfw]⟩
 rintro k ver ⟨hk,hR⟩ KL hN hE
 refine qM (cf:=zIb) laid mixed _ _ _ (by kernel_rfl) ?_
 by_cases hlt:k<l.length
 rotate_left
 ·have hlt':¬(k:Int)<l.length:=by omega
  rw[List.take_of_length_le (by omega)]at hR
  have hw:wrD a.outs l=(zGq l,true):=by unfold wrD;rw[if_pos hR]
  simp (disch:=omega) [zz,hlt']
  refine hE _ _ (by simp) ?_
  rw[List.take_of_length_le (by omega)]
  simp (disch:=omega) [zz,Tryz.f37,hw]
 have hlt':(k:Int)<l.length:=by omega
 have hg:=KB jG l k hlt
 have hstep:=zHq l k hlt
 have hrs:=zHL hlt hR
 have hnk:=hno k hlt
 have hmem:l[k]∈l.take (k+1):=by rw[List.take_succ_eq_append_getElem hlt];exact List.mem_append_right _ (List.mem_singleton.2 rfl)
 have hnd:(l.take (k+1)).map (·.path)=(l.take k).map (·.path)++[l[k].path]:=by rw[List.take_succ_eq_append_getElem hlt,List.map_append];rfl
 obtain⟨d,hd⟩:∃d,d=l[k]:=⟨_,rfl⟩
 rw[←hd]at hg hstep hrs hmem hnd
 have ham:=zcM d.path a.outs (by omega)
 simp (disch:=omega) [zz,hlt',hlt,hg,zGl,jG,hA5]
 refine qL ham rfl rfl (by simp) (by simp[qS,TV.er,AV.er,zjB]) ?_
 by_cases hin:d.path∈a.outs
 rotate_left
 ·have hw:=hnk fun h=>hin (h.2 d hmem)
  simp (disch:=omega) [zz,hin]
  refine hE _ _ (by simp) ?_
  simp (disch:=omega) [zz,Tryz.f37,hw,zU]
 simp (disch:=omega) [zz,hin]
 have hfl:(zGq (l.take k)).length=k:=by rw[(zGG hR.1).1.length_eq,List.length_map,List.length_take];omega
 have htk:(l.take k).length=k:=by rw[List.length_take];omega
 refine⟨hk,?_⟩
 refine AT.loopV (α:=Nat) (fun j ver=>St.of [(1,.av (.slice 53) (zGl l)),(2,.loc 2 []),(6,.av (.slice 63) (zU (zGq (l.take k)))),(8,.loc 8 []),(17,.av (.slice 53) (zGl l)),(18,.av (.int .i64) (.i .i64 l.length)),(19,.av (.int .i64) (.i .i64 k)),(32,.av (.slice 53) (zGl (l.take k))),(33,.av (.int .i64) (.i .i64 k)),(34,.av (.int .i64) (.i .i64 j))] [(2,(UI,A)),(8,(DoT,jG d))] ver [])
  (fun j=>j≤k∧∀y∈(l.take k).take j,y.path≠d.path) (fun j=>k-j) 0 ?_ ?_ ?_
 ·apply Le.of<;>simp[qU,qG,zX,zGl,zU,jG,hA5]<;>try omega
 ·simp
 rintro j ver2 ⟨hj,hall⟩ KL2 hN2 hE2
 refine qM (cf:=zIb) laid mixed _ _ _ (by kernel_rfl) ?_
 by_cases hjk:j<k
 ·have hjk':(j:Int)<k:=by omega
  have hjl:j<l.length:=by omega
  have hst2:(l.take k).take (j+1)=(l.take k).take j++[l[j]]:=by rw[List.take_succ_eq_append_getElem (by omega),List.getElem_take]
  have hm2:l[j]∈l.take k:=by have:=List.getElem_mem (l:=l.take k) (n:=j) (by omega);rwa[List.getElem_take]at this
  have hg2:=KB jG l j hjl
  by_cases e:l[j].path=d.path
  ·have hw:=hnk fun h=>by
    have h1:=h.1
    rw[hnd]at h1
    exact(List.nodup_append.1 h1).2.2 l[j].path (List.mem_map.2 ⟨l[j],hm2,rfl⟩) d.path (by simp) e
   simp (disch:=omega) [zz,hjk',hjl,hjk,hg2,zGl,jG,e]
   refine hE2 _ _ (by simp) ?_
   refine hE _ _ (by simp) ?_
   simp (disch:=omega) [zz,Tryz.f37,hw,zU]
  ·simp (disch:=omega) [zz,hjk',hjl,hjk,hg2,zGl,jG,e]
   refine hN2 _ (j+1) ?_ ⟨by omega,fun z hz=>?_⟩ (by omega)
   ·apply Le.of<;>simp[qU,qG,zX,zGl,zU,jG,hA5]<;>try omega
   ·rw[hst2]at hz
    rcases List.mem_append.1 hz with hz|hz
    ·exact hall z hz
    ·rw[List.mem_singleton.1 hz];exact e
 have hjk':¬(j:Int)<k:=by omega
 rw[List.take_of_length_le (by omega)]at hall
 simp (disch:=omega) [zz,hjk']
 refine hE2 _ _ (by simp) ?_
 clear hN2 hE2
 obtain⟨F,hF⟩:∃F,F=zGq (l.take k):=⟨_,rfl⟩
 rw[←hF]at hfl hstep
 rw[←hF]
 have hFl:∀(g:U1→Bool) j,((F.take j).filter g).length≤k:=fun g j=>Nat.le_trans (List.length_filter_le _ _) (by rw[List.length_take];omega)
 simp (disch:=omega) [zz,zU]
 refine AT.loopV (α:=Nat × Option Nat) (fun x ver=>St.of [(1,.av (.slice 53) (zGl l)),(2,.loc 2 []),(6,.av (.slice 63) (zU F)),(8,.loc 8 []),(11,.av (.slice 63) (.sl (zGA ver x.2) (((F.take x.1).filter (ltF d.path)).map jZ))),(17,.av (.slice 53) (zGl l)),(18,.av (.int .i64) (.i .i64 l.length)),(19,.av (.int .i64) (.i .i64 k)),(45,.av (.slice 63) (zU F)),(46,.av (.int .i64) (.i .i64 k)),(47,.av (.int .i64) (.i .i64 x.1))] [(2,(UI,A)),(8,(DoT,jG d))] ver [])
  (fun x=>x.1≤k) (fun x=>k-x.1) (0,none) ?_ ?_ ?_
 ·apply Le.of<;>simp[qU,qG,zX,zGl,zU,jG,hA5,zGA,hfl]<;>try omega
 ·simp
 rintro⟨j,o⟩ ver3 hj2 KL3 hN3 hE3
 simp only at hj2 hN3
 refine qM (cf:=zIb) laid mixed _ _ _ (by kernel_rfl) ?_
 by_cases hjk2:j<k
 ·have hjk2':(j:Int)<k:=by omega
  have hjl:j<F.length:=by omega
  have hg3:=KB jZ F j hjl
  have hst3:=GJ (ltF d.path) F j hjl
  have hl3:=hFl (ltF d.path) j
  obtain⟨f,hf⟩:∃f,f=F[j]:=⟨_,rfl⟩
  rw[←hf]at hg3 hst3
  have hlt3:ltF d.path f=Op.bytesLess f.path d.path:=rfl
  cases hb:Op.bytesLess f.path d.path with
  | true =>
   rw[if_pos (by rw[hlt3,hb])]at hst3
   simp (disch:=omega) [zz,hjk2',hjl,hg3,zU,jZ,jG,hb]
   refine zGz (by simp;omega) (by simp;omega) (by simp) (by simp) ?_
   intro ver4
   simp (disch:=omega) [zz]
   refine hN3 _ (j+1,some 59) ?_ (by simp only;omega) (by simp only;omega)
   apply Le.of<;>simp[qU,qG,zX,zGl,zU,jG,hA5,zGA,hst3,jZ]<;>try omega
  | false =>
   rw[if_neg (by rw[hlt3,hb];decide),List.append_nil]at hst3
   simp (disch:=omega) [zz,hjk2',hjl,hg3,zU,jZ,jG,hb]
   refine hN3 _ (j+1,o) ?_ (by simp only;omega) (by simp only;omega)
   apply Le.of<;>simp[qU,qG,zX,zGl,zU,jG,hA5,zGA,hst3,jZ]<;>try omega
 have hjk2':¬(j:Int)<k:=by omega
 have hl4:=hFl (ltF d.path) k
 rw[List.take_of_length_le (by omega)]
 rw[List.take_of_length_le (by omega)]at hl4
 simp (disch:=omega) [zz,hjk2']
 refine hE3 _ _ (by simp) ?_
 clear hN3 hE3
 simp (disch:=omega) [zz,jG]
 refine zGz (by simp;omega) (by simp;omega) (by simp) (by simp) ?_
 intro ver5
 simp (disch:=omega) [zz,zU,hfl]
 obtain⟨G,hG⟩:∃G,G=(F.filter (ltF d.path)).map jZ++[jZ (flD d)]:=⟨_,rfl⟩
 have hGl:G.length≤k+1:=by rw[hG,List.length_append,List.length_map,List.length_singleton];omega
 have hGe:(F.filter (ltF d.path)).map jZ++[AV.agg [.s d.path,.s d.data]]=G:=by rw[hG];rfl
 rw[hGe]
 have hfin:(zGq (l.take (k+1))).map jZ=G++(F.filter (gtF d.path)).map jZ:=by
  rw[hstep,zH2,hG,List.map_append,List.map_cons,List.append_assoc];rfl
 refine AT.loopV (α:=Nat × Option Nat) (fun x ver=>St.of [(1,.av (.slice 53) (zGl l)),(2,.loc 2 []),(8,.loc 8 []),(11,.av (.slice 63) (.sl (zGA ver x.2) (G++((F.take x.1).filter (gtF d.path)).map jZ))),(17,.av (.slice 53) (zGl l)),(18,.av (.int .i64) (.i .i64 l.length)),(19,.av (.int .i64) (.i .i64 k)),(69,.av (.slice 63) (zU F)),(70,.av (.int .i64) (.i .i64 k)),(71,.av (.int .i64) (.i .i64 x.1))] [(2,(UI,A)),(8,(DoT,jG d))] ver [])
  (fun x=>x.1≤k) (fun x=>k-x.1) (0,some 68) ?_ ?_ ?_
 ·apply Le.of<;>simp[qU,qG,zX,zGl,zU,jG,hA5,zGA,hfl]<;>try omega
 ·simp
 rintro⟨j2,o2⟩ ver6 hj3 KL4 hN4 hE4
 simp only at hj3 hN4
 refine qM (cf:=zIb) laid mixed _ _ _ (by kernel_rfl) ?_
 by_cases hjk3:j2<k
 ·have hjk3':(j2:Int)<k:=by omega
  have hjl:j2<F.length:=by omega
  have hg3:=KB jZ F j2 hjl
  have hst3:=GJ (gtF d.path) F j2 hjl
  have hl3:=hFl (gtF d.path) j2
  obtain⟨f,hf⟩:∃f,f=F[j2]:=⟨_,rfl⟩
  rw[←hf]at hg3 hst3
  have hlt3:gtF d.path f=!(Op.bytesLess f.path d.path||decide (f.path=d.path)):=rfl
  by_cases hb:Op.bytesLess f.path d.path=true∨f.path=d.path
  ·have hb':(Op.bytesLess f.path d.path||decide (f.path=d.path))=true:=by simpa using hb
   rw[if_neg (by rw[hlt3,hb'];decide),List.append_nil]at hst3
   cases hb1:Op.bytesLess f.path d.path with
   | true =>
    simp (disch:=omega) [zz,hjk3',hjl,hg3,zU,jZ,jG,hb1]
    refine hN4 _ (j2+1,o2) ?_ (by simp only;omega) (by simp only;omega)
    apply Le.of<;>simp[qU,qG,zX,zGl,zU,jG,hA5,zGA,hst3,jZ]<;>try omega
   | false =>
    have hb2:f.path=d.path:=hb.resolve_left (by rw[hb1];decide)
    rw[hb2]at hb1
    simp (disch:=omega) [zz,hjk3',hjl,hg3,zU,jZ,jG,hb1,hb2]
    refine hN4 _ (j2+1,o2) ?_ (by simp only;omega) (by simp only;omega)
    apply Le.of<;>simp[qU,qG,zX,zGl,zU,jG,hA5,zGA,hst3,jZ]<;>try omega
  ·have hb':(Op.bytesLess f.path d.path||decide (f.path=d.path))=false:=by simpa using hb
   have hb1:Op.bytesLess f.path d.path=false:=by simpa using fun h=>hb (.inl h)
   have hb2:¬f.path=d.path:=fun h=>hb (.inr h)
   rw[if_pos (by rw[hlt3,hb'];rfl)]at hst3
   simp (disch:=omega) [zz,hjk3',hjl,hg3,zU,jZ,jG,hb1,hb2]
   refine zGz (by simp;omega) (by simp;omega) (by simp) (by simp) ?_
   intro ver7
   simp (disch:=omega) [zz]
   refine hN4 _ (j2+1,some 83) ?_ (by simp only;omega) (by simp only;omega)
   apply Le.of<;>simp[qU,qG,zX,zGl,zU,jG,hA5,zGA,hst3,jZ]<;>try omega
 have hjk3':¬(j2:Int)<k:=by omega
 rw[List.take_of_length_le (by omega),←hfin]
 simp (disch:=omega) [zz,hjk3']
 refine hE4 _ _ (by simp) ?_
 clear hN4 hE4
 simp (disch:=omega) [zz]
 refine hN _ (k+1) ?_ ⟨by omega,hrs hin fun y hy=>hall y hy⟩ (by omega)
 apply Le.of<;>simp[qU,qG,zX,zGl,zU,hA5]<;>try omega
end Go.Proofs.YtooipdkilgpojaaGreatDoor
end
