/- Commands of the document's tool: env, write. No condition beyond each theorem's own. -/
import Derived.Test.YtooipdkilgpojaaGreatDoorRWF
import Derived.Test.YtooipdkilgpojaaGreatDoorRW7ToBQ3
import Derived.Test.YtooipdkilgpojaaGreatDoorS3ToBX1
import Derived.Test.YtooipdkilgpojaaGreatDoorKTgToKS2
import Derived.Test.YtooipdkilgpojaaGreatDoorB0
import Derived.Test.YtooipdkilgpojaaGreatDoorAbSToSk
import Derived.Test.YtooipdkilgpojaaGreatDoorBR0ToKK1
import Derived.Test.YtooipdkilgpojaaGreatDoorGB2ToGB3
set_option linter.unusedSimpArgs false
set_option linter.unusedVariables false
set_option linter.unusedSectionVars false
section
set_option maxRecDepth 100000
namespace Go.Proofs.YtooipdkilgpojaaGreatDoor
open Go Go.Ab
open Classical
variable [Sel] [SelPow] [SelMax]
theorem zHi (l:List (Txt × Txt)):((l.map Z7).length:Int)=l.length:=by simp
theorem zIc (l:List (Txt × Txt)) (k:Nat) (h:k<l.length):(l.map Z7)[k]?=some (.agg [.s l[k].1,.s l[k].2]):=by
 rw[List.getElem?_map,List.getElem?_eq_getElem h];rfl
theorem zIl {α:Type} {P:α→Bool} {l:List α} {k:Nat} (h:k<l.length) (hno:∀i (hi:i<l.length),i<k→P l[i]=false) (hp:P l[k]=true):l.find? P=some l[k]:=by
 rw[List.find?_eq_some_iff_getElem]
 exact⟨hp,k,h,rfl,fun j hj=>by rw[hno j (by omega) hj];rfl⟩
theorem zIj {α:Type} {P:α→Bool} {l:List α} (hno:∀i (hi:i<l.length),P l[i]=false):l.find? P=none:=by
 rw[List.find?_eq_none]
 intro x hx
 obtain⟨i,hi,rfl⟩:=List.mem_iff_getElem.1 hx
 rw[hno i hi];simp
set_option maxHeartbeats 16000000 in
theorem zHr (env:List (Txt × Txt)) (kn:List KnV) (line arg:Txt) (s:StV) (h:zGy s env kn line) :
  PC Tryz.prog 118 (zGr s env kn line [yO,arg]) (.av StT (K0 (xT env kn line [yO,arg] s))):=by
 have hb:=h.buf
 have h5:∀l:List Txt,AV.ers (strs l)=strs l:=fun l=>zjB l
 have h6:∀l:List DoV,(zGl l).er=zGl l:=zGp
 have hks:(zL kn).er=zL kn:=YO kn
 have hk0:s.stop.kind=0:=by rw[h.inv.stop];rfl
 have hs0:strs []=[]:=rfl
 have hs1:∀x:Txt,strs [x]=[.s x]:=fun _=>rfl
 have hs2:∀x y:Txt,strs [x,y]=[.s x,.s y]:=fun _ _=>rfl
 have hs3:∀x y z:Txt,strs [x,y,z]=[.s x,.s y,.s z]:=fun _ _ _=>rfl
 have hv:xT env kn line [yO,arg] s=(match env.find? fun x=>decide (x.1=arg)with|some x=>yP x.2 s|none=>yZ 10 s):=by
  unfold xT;simp only[List.getD_cons_zero,List.getD_cons_succ];rw[if_neg (by decide),if_neg (by decide),if_neg (by decide),if_pos trivial];rfl
 obtain⟨FIN,hFIN⟩:∃F,F=xT env kn line [yO,arg] s:=⟨_,rfl⟩
 rw[←hFIN]at hv ⊢
 obtain⟨V,hV⟩:∃V,V=K0 FIN:=⟨_,rfl⟩
 rw[←hV]
 have hf:=zGv s 10
 have he1:=zGn (yZ 10 s)
 have hel:=h.el
 refine zow Tryz.func118 zGt fun imm0 w0=>?_
 simp (disch:=omega) [zz,K0,hs2,yO]
 refine AT.loop' (α:=Nat) (fun k=>St.of [(1,.av (.slice 85) (zS env)),(4,.av (.slice 9) (.sl .no [.s yO,.s arg])),(5,.loc 5 []),(10,.loc 10 []),(15,.av (.int .i64) (.i .i64 k))] [(5,(StT,K0 s)),(10,(StT,.agg [.s [],.sl .full [],.sl .full [],.agg [.i .i64 0,.s [],.s [],.i .i64 0]]))] (fun _=>0) [])
  (fun k=>k≤env.length∧∀i (hi:i<env.length),i<k→decide (env[i].1=arg)=false) (fun k=>env.length-k) 0 ?_ ?_ ?_
 ·apply Le.of<;>simp[qU,qG,K0,jG,yO,hs2]<;>try omega
 ·exact⟨by omega,fun i hi hik=>by omega⟩
 rintro k ⟨hk,hno⟩ KL hN hE
 refine qM (cf:=zGt) laid mixed _ _ _ (by kernel_rfl) ?_
 by_cases hlt:k<env.length
 ·have hlt':(k:Int)<env.length:=by omega
  have hg:=zIc env k hlt
  by_cases hc:env[k].1=arg
  ·have hfd:=zIl (P:=fun x:Txt × Txt=>decide (x.1=arg)) hlt hno (by simp[hc])
   rw[hfd]at hv
   simp only at hv
   have hvl:=h.val _ (List.getElem_mem hlt)
   obtain⟨q,hq⟩:∃q,q=env[k]:=⟨_,rfl⟩
   rw[←hq]at hg hc hv hvl
   have hadd:=zGu s q.2 (by omega) hvl
   have he2:=zGn (yP q.2 s)
   simp (disch:=omega) [zz,hlt',zHi,hg,hc,zS]
   (repeat with_reducible refine om ?_)
   refine jC hadd rfl rfl (by simp) (by simp[qS,coC,TV.er,AV.er,AV.ers,K0,jG,h5,h6,hks]) ?_
   simp (disch:=omega) [zz]
   (repeat with_reducible refine om ?_)
   refine hE _ _ (by simp) ?_
   simp (disch:=omega) [zz,hV,hv,he2,Tryz.f118]
  ·simp (disch:=omega) [zz,hlt',zHi,hg,hc,zS]
   refine hN _ (k+1) ?_ ⟨by omega,fun i hi hik=>?_⟩ (by omega)
   ·apply Le.of<;>simp[qU,qG,zS]<;>try omega
   ·rcases Nat.lt_or_ge i k with h1|h1
    ·exact hno i hi h1
    ·have:i=k:=by omega
     subst this
     simpa using hc
 ·have hlt':¬(k:Int)<env.length:=by omega
  have hfd:=zIj (P:=fun x:Txt × Txt=>decide (x.1=arg)) (l:=env) fun i hi=>hno i hi (by omega)
  rw[hfd]at hv
  simp only at hv
  simp (disch:=omega) [zz,hlt',zHi,zS]
  refine hE _ _ (by simp) ?_
  simp (disch:=omega) [zz]
  refine qL hf rfl rfl (by simp) (by simp[qS,coC,TV.er,AV.er,AV.ers,K0,jG,h5,h6,hks]) ?_
  simp (disch:=omega) [zz,hV,hv,he1,Tryz.f118]
abbrev zId:Cfg:=⟨fun _=>false,fun n=>n==145||n==1000035||n==2000136||n==2000144⟩
set_option maxHeartbeats 16000000 in
theorem zH4 (env:List (Txt × Txt)) (kn:List KnV) (line arg:Txt) (s:StV) (h:zGy s env kn line) :
  PC Tryz.prog 118 (zGr s env kn line [j8,arg]) (.av StT (K0 (xT env kn line [j8,arg] s))):=by
 have hb:=h.buf
 have h5:∀l:List Txt,AV.ers (strs l)=strs l:=fun l=>zjB l
 have h6:∀l:List DoV,(zGl l).er=zGl l:=zGp
 have hks:(zL kn).er=zL kn:=YO kn
 have hk0:s.stop.kind=0:=by rw[h.inv.stop];rfl
 have hs0:strs []=[]:=rfl
 have hs1:∀x:Txt,strs [x]=[.s x]:=fun _=>rfl
 have hs2:∀x y:Txt,strs [x,y]=[.s x,.s y]:=fun _ _=>rfl
 have hs3:∀x y z:Txt,strs [x,y,z]=[.s x,.s y,.s z]:=fun _ _ _=>rfl
 have hv:xT env kn line [j8,arg] s={ s with wrote:=s.wrote++[⟨2,arg,s.buf,0⟩],buf:=[] }:=by
  unfold xT;simp only[List.getD_cons_zero,List.getD_cons_succ];rw[if_neg (by decide),if_neg (by decide),if_neg (by decide),if_neg (by decide),if_neg (by decide),if_neg (by decide),if_neg (by decide),if_pos trivial]
 obtain⟨FIN,hFIN⟩:∃F,F=xT env kn line [j8,arg] s:=⟨_,rfl⟩
 rw[←hFIN]at hv ⊢
 obtain⟨V,hV⟩:∃V,V=K0 FIN:=⟨_,rfl⟩
 rw[←hV]
 have hwl:=h.wr
 have hda:s.wrote.map jG++[AV.agg [.i .i64 2,.s arg,.s s.buf,.i .i64 0]]=(s.wrote++[(⟨2,arg,s.buf,0⟩:DoV)]).map jG:=by simp[jG]
 refine zow Tryz.func118 zId fun imm0 w0=>?_
 simp (disch:=omega) [zz,K0,hs2,j8]
 refine jW.of [0,1,2,4,5,6,7,8,9,10,3,11,12,13] [0,1,2,4,5,6,7,8,9,10] (by kernel_rfl) ?_
 simp (disch:=omega) [zz,zGl,hs2,wB,hda]
 (repeat with_reducible refine om ?_)
 have h7:∀l:List DoV,AV.ers (l.map jG)=l.map jG:=fun l=>by simp[AV.ers_eq,Function.comp_def]
 have h8:AV.ers (s.wrote.map jG++[AV.agg [.i .i64 2,.s arg,.s s.buf,.i .i64 0]])=s.wrote.map jG++[AV.agg [.i .i64 2,.s arg,.s s.buf,.i .i64 0]]:=by rw[hda];exact h7 _
 simp (disch:=omega) [zz,hV,hv,K0,jG,zGl,h5,h8,AV.er,AV.ers,Tryz.f118]
theorem zGR (kn:List KnV) (p:Txt) (s:StV):(y7 kn p s).1.wrote=s.wrote:=by
 unfold y7
 split
 ·rfl
 ·cases zQ kn p<;>(simp only;split<;>rfl)
theorem zGx (t:Txt) (s:StV):(yP t s).wrote=s.wrote:=by unfold yP;split<;>rfl
theorem zGB {w:Txt} {rec:Txt→StV→List Txt→StV × List Txt} (hr:∀p s d,(rec p s d).1.wrote=s.wrote):∀(l:List Txt) (s:StV) (d:List Txt),(ZS rec w l s d).1.wrote=s.wrote
 | [],s,d=>rfl
 | x::r,s,d=>by
  rw[ZS]
  split
  ·rfl
  ·split
   ·split
    ·rw[zGB hr,zGx]
    ·split
     ·rw[zGB hr]
     ·rw[zGB hr,hr]
   ·rw[zGB hr,zGx]
theorem zHs {kn:List KnV} {w:Txt}:∀(n:Nat) (p:Txt) (s:StV) (d:List Txt),(zdm kn w n p s d).1.wrote=s.wrote
 | 0,_,_,_=>rfl
 | n+1,p,s,d=>by
  rw[zdm]
  split
  ·exact zGR kn p s
  ·split
   ·exact zGR kn p s
   ·rw[zGB (zHs n),zGR]
theorem zHW (env:List (Txt × Txt)) (kn:List KnV) (line:Txt) (ws:List Txt) (s:StV) (h:s.buf.length≤65536):(xT env kn line ws s).buf.length≤65536:=by
 have ha:=zGM kn (ws.getD 1 []) s
 unfold xT
 simp only
 split
 ·split
  ·rw[ha];exact h
  ·split
   ·exact zGs (by rw[ha];exact h)
   ·split
    ·show (y7 kn _ s).1.buf.length≤65536;rw[ha];exact h
    ·rw[ha];exact h
 split
 ·exact zGN _ _ _ _ h
 split
 ·exact zGs h
 split
 ·split
  ·exact zGs h
  ·exact h
 split
 ·exact h
 split
 ·split<;>exact h
 split
 ·exact zGs (by simp)
 split
 ·simp
 ·exact zGs (by simp)
theorem zHC (env:List (Txt × Txt)) (kn:List KnV) (line:Txt) (ws:List Txt) (s:StV):(xT env kn line ws s).wrote.length≤s.wrote.length+1:=by
 have ha:=zGR kn (ws.getD 1 []) s
 unfold xT
 simp only
 split
 ·split
  ·rw[ha];omega
  ·split
   ·rw[zGx,ha];omega
   ·split
    ·show (y7 kn _ s).1.wrote.length≤_;rw[ha];omega
    ·rw[ha];omega
 split
 ·rw[zHs];omega
 split
 ·rw[zGx];omega
 split
 ·split
  ·rw[zGx];omega
  ·show s.wrote.length≤_;omega
 split
 ·show s.wrote.length≤_;omega
 split
 ·split
  ·show s.wrote.length≤_;omega
  ·omega
 split
 ·rw[zGx];show s.wrote.length≤_;omega
 split
 ·simp
 ·rw[zGx];show s.wrote.length≤_;omega
theorem zI2 {line:Txt} (hp:U4 (zR line)=false) (hg:vH (zR line)=true):∃c,Z0 line=some (some c):=by
 cases hr:Z0 line with
 | none=>have:=(vB line).1 hr;rw[hg]at this;cases this
 | some y =>
  cases y with
  | some c=>exact⟨c,rfl⟩
  | none =>
   exfalso
   unfold Z0 at hr
   unfold U4 at hp
   cases hw:zR line with
   | nil=>rw[hw]at hp;cases hp
   | cons w ws =>
    rw[hw]at hr hp
    simp only at hr hp
    split at hr
    ·rename_i h1;simp[h1]at hp
    ·split at hr
     ·simp at hr
     ·split at hr<;>simp at hr
theorem zIa (env:List (Txt × Txt)) (kn:List KnV) (line:Txt) (s:StV) (hp:U4 (zR line)=false) (hg:vH (zR line)=true) (h:zGy s env kn line) :
  PC Tryz.prog 118 (zGr s env kn line (zR line)) (.av StT (K0 (xT env kn line (zR line) s))):=by
 have hll:=h.ll
 have hwe:∀y∈zR line,y.length≤1000000000:=fun y hy=>by
  have:=ZI hy
  have:=this.2;simp at this;omega
 unfold vH at hg
 rw[hp,Bool.false_or]at hg
 obtain⟨W,hW⟩:∃W,W=zR line:=⟨_,rfl⟩
 rw[←hW]at hp hg hwe ⊢
 cases W with
 | nil=>cases hp
 | cons w ws =>
  simp only at hg
  unfold zoT at hg
  have one:ws.length=1→∃a,ws=[a]∧a.length≤1000000000:=fun e=>by
   rcases ws with _|⟨a,_|⟨b,r⟩⟩
   ·simp at e
   ·exact⟨a,rfl,hwe a (by simp)⟩
   ·simp at e
  have two:ws.length=2→∃a b,ws=[a,b]:=fun e=>by
   rcases ws with _|⟨a,_|⟨b,_|⟨c,r⟩⟩⟩
   ·simp at e
   ·simp at e
   ·exact⟨a,b,rfl⟩
   ·simp at e
  split at hg
  ·rename_i e;subst e
   exact zHa env kn line s ws h
  split at hg
  ·rename_i e
   simp only[Bool.and_eq_true,decide_eq_true_eq]at hg
   obtain⟨a,rfl,_⟩:=one hg.1
   rcases e with e|e|e
   ·exact zGJ env kn line w a s (.inl e) h
   ·exact zGJ env kn line w a s (.inr e) h
   ·subst e;exact zH4 env kn line a s h
  split at hg
  ·rename_i e;subst e
   simp only[Bool.and_eq_true,decide_eq_true_eq]at hg
   obtain⟨a,b,rfl⟩:=two hg.1
   exact zHm env kn line a b s h
  split at hg
  ·rename_i e
   simp only[decide_eq_true_eq]at hg
   obtain⟨a,rfl,ha⟩:=one hg
   rcases e with e|e|e
   ·subst e;exact zHr env kn line a s h
   ·subst e;exact zH7 env kn line a s ha h
   ·subst e;exact zHl env kn line a s ha h
  split at hg
  ·rename_i e
   simp only[decide_eq_true_eq]at hg
   obtain rfl:ws=[]:=List.length_eq_zero_iff.1 hg
   rcases e with e|e|e|e|e
   ·subst e;exact zHh env kn line s h
   ·subst e;exact zHe env kn line s h
   ·subst e;exact zGV env kn line s h
   ·subst e;exact zH1 env kn line s h
   ·subst e;exact zHg env kn line s h
  ·cases hg
structure zIz (env:List (Txt × Txt)) (kn:List KnV):Prop where
 kl:kn.length≤1000000000
 dat:∀k∈kn,k.data.length≤65536
 el:env.length≤1000000000
 val:∀x∈env,x.2.length≤1000000000
theorem zGQ {t:Txt} (h:DV t=(0,0)):t.length≤65536∧(z7 t).length≤400∧∀x∈z7 t,vH (zR x)=true:=by
 unfold DV at h
 split at h
 ·simp at h
 ·rename_i h1
  refine⟨by omega,by omega,fun x hx=>?_⟩
  obtain⟨i,hi,rfl⟩:=List.mem_iff_getElem.1 hx
  cases hb:zbZ (z7 t)with
  | some n=>rw[hb]at h;simp at h
  | none =>
   have key:∀(l:List Txt),zbZ l=none→∀y∈l,vH (zR y)=true:=by
    intro l
    induction l with
    | nil=>intro _ y hy;cases hy
    | cons a r ih =>
     intro hb y hy
     rw[zbZ]at hb
     split at hb
     ·rename_i hga
      rcases List.mem_cons.1 hy with rfl|hy
      ·exact hga
      ·exact ih (by cases hr:zbZ r with|none=>rfl|some n=>rw[hr]at hb;simp at hb) y hy
     ·cases hb
   exact key _ hb _ (List.getElem_mem hi)
abbrev zIm:Cfg:=⟨fun _=>false,fun _=>false⟩
set_option maxHeartbeats 16000000 in
theorem zIi (t:Txt) (env:List (Txt × Txt)) (kn:List KnV) (hc:DV t=(0,0)) (h:zIz env kn) :
  PC Tryz.prog 73 [.av .str (.s t),.av (.slice 85) (zS env),.av (.slice 57) (zL kn)] (.av StT (K0 (Y9 env kn (z7 t) st0))):=by
 obtain⟨htl,hLl,hgood⟩:=zGQ hc
 have hck:=zy8 t (by omega)
 rw[hc]at hck
 have hrl:=zyi t (by omega)
 have hlm:∀x∈z7 t,x.length≤65536:=fun x hx=>by
  rw[zy7]at hx
  have:=zxK t x hx
  omega
 have h5:∀l:List Txt,AV.ers (strs l)=strs l:=fun l=>zjB l
 have h6:∀l:List DoV,(zGl l).er=zGl l:=zGp
 have hks:(zL kn).er=zL kn:=YO kn
 have hes:(zS env).er=zS env:=by simp[zS,Z7,AV.er,AV.ers,AV.ers_eq,Function.comp_def]
 obtain⟨FIN,hFIN⟩:∃F,F=Y9 env kn (z7 t) st0:=⟨_,rfl⟩
 rw[←hFIN]
 obtain⟨V,hV⟩:∃V,V=K0 FIN:=⟨_,rfl⟩
 rw[←hV]
 obtain⟨L,hL⟩:∃L,L=z7 t:=⟨_,rfl⟩
 rw[←hL]at hrl hlm hgood hFIN hLl
 refine zow Tryz.func73 zIm fun imm0 w0=>?_
 simp (disch:=omega) [zz]
 refine zcv hck ?_
 simp (disch:=omega) [zz]
 refine zcv hrl ?_
 simp (disch:=omega) [zz]
 refine AT.loop' (α:=Nat × StV) (fun x=>St.of [(1,.av (.slice 85) (zS env)),(2,.av (.slice 57) (zL kn)),(6,.loc 6 []),(7,.loc 7 []),(10,.av (.slice 9) (.sl .no (strs L))),(11,.av (.int .i64) (.i .i64 x.1))] [(6,(StT,.agg [.s [],.sl .full [],.sl .full [],.agg [.i .i64 0,.s [],.s [],.i .i64 0]])),(7,(StT,K0 x.2))] (fun _=>0) [])
  (fun x=>x.1≤L.length∧Y9 env kn (L.drop x.1) x.2=FIN∧gR x.2∧x.2.buf.length≤65536∧x.2.wrote.length≤x.1) (fun x=>L.length-x.1) (0,st0) ?_ ?_ ?_
 ·apply Le.of<;>simp[qU,qG,K0,st0,do0,jG,zGl,strs,J5,zfd,zbn,zk8,leA]<;>try omega
 ·exact⟨by omega,hFIN.symm,⟨rfl,by simp[st0]⟩,by simp[st0],by simp[st0]⟩
 rintro⟨i,s⟩ ⟨hil,hfin,hinv,hbf,hwr⟩ KL hN hE
 simp only at hil hfin hinv hbf hwr hN
 refine qM (cf:=zIm) laid mixed _ _ _ (by kernel_rfl) ?_
 have hse:=zGn s
 by_cases hlt:i<L.length
 rotate_left
 ·have hlt':¬(i:Int)<L.length:=by omega
  rw[List.drop_eq_nil_of_le (by omega),Y9]at hfin
  simp (disch:=omega) [zz,hlt',qX]
  refine hE _ _ (by simp) ?_
  simp (disch:=omega) [zz,K0,jG]
  simp (disch:=omega) [zz,hV,←hfin,K0,jG,h5,h6,AV.er,AV.ers,Tryz.f73]
 have hlt':(i:Int)<L.length:=by omega
 have hdr:L.drop i=L[i]::L.drop (i+1):=List.drop_eq_getElem_cons hlt
 rw[hdr,Y9]at hfin
 have hg:=yH L i hlt
 have hxl:=hlm _ (List.getElem_mem hlt)
 have hgx:=hgood _ (List.getElem_mem hlt)
 obtain⟨x,hx⟩:∃x,x=L[i]:=⟨_,rfl⟩
 rw[←hx]at hg hxl hfin hgx
 have hwd:=zyh x (by omega)
 have hwe:∀w∈zR x,w≠[]:=fun w hw=>(ZI hw).1
 have hwl:(zR x).length≤1000001:=Nat.le_trans uI (by omega)
 have hpa:=zyd (zR x) hwe (by omega)
 simp (disch:=omega) [zz,hlt',hg,qX]
 refine zcv hwd ?_
 simp (disch:=omega) [zz]
 refine qL hpa rfl rfl (by simp) (by simp[qS,TV.er,AV.er,h5]) ?_
 cases hp:U4 (zR x)with
 | true =>
  rw[if_pos hp]at hfin
  simp (disch:=omega) [zz]
  refine hN _ (i+1,s) ?_ ⟨by simp only;omega,hfin,hinv,hbf,by simp only;omega⟩ (by simp only;omega)
  apply Le.of<;>simp[qU,qG,qX]<;>try omega
 | false =>
  rw[if_neg (by simp[hp])]at hfin
  have hB:zGy s env kn x:=⟨hinv,hbf,h.kl,h.dat,h.el,h.val,by omega,by omega⟩
  have hst:=zIa env kn x s hp hgx hB
  obtain⟨c,hcc⟩:=zI2 hp hgx
  have hso:=zhY (env:=env) (kn:=kn) hcc [] [] hinv
  have hsb:=zHW env kn x (zR x) s hbf
  have hsw:=zHC env kn x (zR x) s
  obtain⟨r,hr⟩:∃r,r=xT env kn x (zR x) s:=⟨_,rfl⟩
  rw[←hr]at hst hso hsb hsw hfin
  simp (disch:=omega) [zz,hlt,hlt',hg,qX]
  (repeat with_reducible refine om ?_)
  refine jC hst rfl rfl (by simp) (by simp[qS,coC,TV.er,AV.er,AV.ers,hse,h5,hks,hes]) ?_
  simp (disch:=omega) [zz,K0,jG]
  (repeat with_reducible refine om ?_)
  by_cases hk:r.stop.kind=0
  ·rw[if_neg (by simp[hk])]at hfin
   simp (disch:=omega) [zz,hk]
   refine hN _ (i+1,r) ?_ ⟨by simp only;omega,hfin,(hso.go hk).1,hsb,by simp only;omega⟩ (by simp only;omega)
   apply Le.of<;>simp[qU,qG,K0,jG,hk,qX]<;>try omega
  ·rw[if_pos hk]at hfin
   simp (disch:=omega) [zz,hk]
   refine hE _ _ (by simp) ?_
   simp (disch:=omega) [zz,hV,←hfin,K0,jG,h5,h6,AV.er,AV.ers,Tryz.f73]
@[simp] theorem zAC:qZ Tryz.prog 39=true:=by kernel_rfl
@[simp] theorem zBk:z8 Tryz.prog (.func 39)=false:=q9 zAC
def zHx (outs:List Txt) (fs:List U1):Bool:=decide (∀p∈outs,p∈fs.map (·.path))
set_option maxHeartbeats 16000000 in
theorem zIh (a:xW) (fs:List U1) (ho:a.outs.length≤1000000) (hl:fs.length≤1000000) :
  PC Tryz.prog 39 [.av UI (kT a),.av (.slice 63) (zU fs)] (.av .bool (.b (zHx a.outs fs))):=by
 obtain⟨A,hA⟩:∃A,A=kT a:=⟨_,rfl⟩
 have hA5:A=.agg [.agg [.s a.pkg,.s a.name],.s a.tool,zS a.env,.sl .no (strs a.ins),.sl .no (strs a.asks),.sl .no (strs a.outs)]:=hA
 rw[←hA]
 refine zow Tryz.func39 cf0 fun imm0 w0=>?_
 simp (disch:=omega) [zz,hA5]
 refine AT.loop' (α:=Nat) (fun k=>St.of [(1,.av (.slice 63) (zU fs)),(11,.av (.slice 9) (.sl .no (strs a.outs))),(12,.av (.int .i64) (.i .i64 a.outs.length)),(13,.av (.int .i64) (.i .i64 k))] [] (fun _=>0) [])
  (fun k=>k≤a.outs.length∧∀p∈a.outs.take k,p∈fs.map (·.path)) (fun k=>a.outs.length-k) 0 ?_ ?_ ?_
 ·apply Le.of<;>simp[qU,qG,zX,qX,zU]<;>try omega
 ·simp
 rintro k ⟨hk,hall⟩ KL hN hE
 refine qM (cf:=cf0) laid mixed _ _ _ (by kernel_rfl) ?_
 by_cases hlt:k<a.outs.length
 rotate_left
 ·have hlt':¬(k:Int)<a.outs.length:=by omega
  rw[List.take_of_length_le (by omega)]at hall
  have hv:zHx a.outs fs=true:=decide_eq_true hall
  simp (disch:=omega) [zz,hlt',qX]
  refine hE _ _ (by simp) ?_
  simp (disch:=omega) [zz,Tryz.f39,hv]
 have hlt':(k:Int)<a.outs.length:=by omega
 have hg:=yH a.outs k hlt
 have hst:=List.take_succ_eq_append_getElem hlt
 have hmm:=List.getElem_mem hlt
 obtain⟨p,hp⟩:∃p,p=a.outs[k]:=⟨_,rfl⟩
 rw[←hp]at hg hst hmm
 simp (disch:=omega) [zz,hlt',hlt,hg,qX,zU]
 refine AT.loop' (α:=Nat) (fun j=>St.of [(1,.av (.slice 63) (zU fs)),(6,.av .str (.s p)),(7,.av .bool (.b (decide (p∈(fs.take j).map (·.path))))),(11,.av (.slice 9) (.sl .no (strs a.outs))),(12,.av (.int .i64) (.i .i64 a.outs.length)),(13,.av (.int .i64) (.i .i64 k)),(17,.av (.slice 63) (zU fs)),(18,.av (.int .i64) (.i .i64 fs.length)),(19,.av (.int .i64) (.i .i64 j))] [] (fun _=>0) [])
  (fun j=>j≤fs.length) (fun j=>fs.length-j) 0 ?_ ?_ ?_
 ·apply Le.of<;>simp[qU,qG,zX,qX,zU]<;>try omega
 ·omega
 rintro j hj KL2 hN2 hE2
 refine qM (cf:=cf0) laid mixed _ _ _ (by kernel_rfl) ?_
 by_cases hjl:j<fs.length
 ·have hjl':(j:Int)<fs.length:=by omega
  have hg2:=KB jZ fs j hjl
  have hst2:decide (p∈(fs.take (j+1)).map (·.path))=(decide (p∈(fs.take j).map (·.path))||decide (fs[j].path=p)):=by
   rw[List.take_succ_eq_append_getElem hjl,List.map_append,Bool.eq_iff_iff]
   simp only[decide_eq_true_eq,Bool.or_eq_true,List.mem_append,List.map_cons,List.map_nil,List.mem_singleton]
   exact⟨fun h=>h.imp id fun e=>e.symm,fun h=>h.imp id fun e=>e.symm⟩
  obtain⟨f,hf⟩:∃f,f=fs[j]:=⟨_,rfl⟩
  rw[←hf]at hg2 hst2
  obtain⟨b1,hb1⟩:∃b,b=decide (p∈(fs.take j).map (·.path)):=⟨_,rfl⟩
  rw[←hb1]at hst2 ⊢
  cases b1 with
  | true =>
   rw[Bool.true_or]at hst2
   simp (disch:=omega) [zz,hjl',hjl,hg2,zU,jZ]
   refine hN2 _ (j+1) ?_ (by omega) (by omega)
   rw[hst2]
   apply Le.of<;>simp[qU,qG,zX,qX,zU]<;>try omega
  | false =>
   rw[Bool.false_or]at hst2
   simp (disch:=omega) [zz,hjl',hjl,hg2,zU,jZ]
   refine hN2 _ (j+1) ?_ (by omega) (by omega)
   rw[hst2]
   apply Le.of<;>simp[qU,qG,zX,qX,zU]<;>try omega
 have hjl':¬(j:Int)<fs.length:=by omega
 rw[List.take_of_length_le (by omega)]
 by_cases hpi:p∈fs.map (·.path)
 ·simp (disch:=omega) [zz,hjl',hpi]
  refine hE2 _ _ (by simp) ?_
  simp (disch:=omega) [zz,hpi]
  refine hN _ (k+1) ?_ ⟨by omega,fun q hq=>?_⟩ (by omega)
  ·apply Le.of<;>simp[qU,qG,zX,qX,zU]<;>try omega
  ·rw[hst]at hq
   rcases List.mem_append.1 hq with hq|hq
   ·exact hall q hq
   ·rw[List.mem_singleton.1 hq];exact hpi
 ·have hv:zHx a.outs fs=false:=decide_eq_false fun h=>hpi (h p hmm)
  simp (disch:=omega) [zz,hjl',hpi]
  refine hE2 _ _ (by simp) ?_
  simp (disch:=omega) [zz,hpi]
  refine hE _ _ (by simp) ?_
  simp (disch:=omega) [zz,Tryz.f39,hv]
theorem zI4 (t:Txt) (env:List (Txt × Txt)) (kn:List KnV) (hc:DV t=(0,0)) (h:zIz env kn) :
  PC Tryz.prog 36 [.av .str (.s t),.av (.slice 85) (zS env),.av (.slice 57) (zL kn)] (.tup [(DoT,jG (Y9 env kn (z7 t) st0).stop),(.slice 53,zGl (Y9 env kn (z7 t) st0).wrote)]):=by
 have hf:=zIi t env kn hc h
 obtain⟨s,hs⟩:∃s,s=Y9 env kn (z7 t) st0:=⟨_,rfl⟩
 rw[←hs]at hf ⊢
 have hks:(zL kn).er=zL kn:=YO kn
 have hes:(zS env).er=zS env:=by simp[zS,Z7,AV.er,AV.ers,AV.ers_eq,Function.comp_def]
 have hd:(zGl s.wrote).er=zGl s.wrote:=zGp _
 refine zow Tryz.func36 cf0 fun imm0 w0=>?_
 simp (disch:=omega) [zz]
 refine qL hf rfl rfl (by simp) (by simp[qS,TV.er,AV.er,hks,hes]) ?_
 simp (disch:=omega) [zz,K0]
 (repeat with_reducible refine om ?_)
 simp (disch:=omega) [zz,Tryz.f36,hd,jG]
@[simp] theorem zns:qZ Tryz.prog 26=true:=by kernel_rfl
@[simp] theorem zsf:z8 Tryz.prog (.func 26)=false:=q9 zns
theorem zDG:KW zc4=.agg (List.replicate 32 (.i .u8 0)):=by simp[KW,zc4]
theorem zDP (k:KnV) (hk:k.data.length≤1000000000):PC Tryz.prog 26 [.av KnT (zH k)] (.av (qD Tryz.prog 79) (qI (J9 k))):=by
 obtain⟨p,i,d⟩:=k
 simp only at hk
 refine zow Tryz.func26 cf0 fun imm0 w0=>?_
 cases i with
 | false=>simp (disch:=omega) [zz,zH,Tryz.f26,J9,qI,zDG,AV.ers_eq,AV.er]
 | true =>
  simp (disch:=omega) [zz,zH]
  (repeat with_reducible refine om ?_)
  refine jC (zEi d (by omega)) rfl rfl (by simp) (by simp[qS,TV.er,AV.er]) ?_
  simp (disch:=omega) [zz,Tryz.f26,J9,qI]
  show rdJ _ _ _ _ _=true
  kernel_rfl
end Go.Proofs.YtooipdkilgpojaaGreatDoor
end
section
set_option maxRecDepth 100000
namespace Go.Proofs.YtooipdkilgpojaaGreatDoor
open Go Go.Ab
open Classical
variable [Sel]
def tkG (d:Nat):Nat→Tok
 | 0=>.full
 | k+1=>.own d (k+1)
theorem zD9 {P:Program} {s:St} {d n:Nat} {e:TypeId} {xs ys:List AV} {K:St→Prop} (hv:s.ver d=n) (h1:2*(xs.length+ys.length)*P.bytesOf e≤281474976710656) (h2:xs.length+ys.length≤4611686018427387904) (h3:zB P e=true) (h4:jX P e=true)
  (hk:K (({ s with ver:=upd s.ver d (n+1) }:St).put (some d) (.av (.slice e) (.sl (tkG d (n+1)) (xs++ys))))):wB P s d e (tkG d n) xs ys K:=by
 refine⟨h1,h2,h3,h4,?_⟩
 cases n with
 | zero=>simpa only[tkG,hv]using hk
 | succ n =>
  refine⟨hv,?_⟩
  have:upd (upd s.ver d (s.ver d+1)) d (s.ver d+1)=upd s.ver d (s.ver d+1):=by
   funext j;simp only[upd];split<;>rfl
  rw[this,hv]
  exact hk
end Go.Proofs.YtooipdkilgpojaaGreatDoor
end
section
set_option maxRecDepth 100000
namespace Go.Proofs.YtooipdkilgpojaaGreatDoor
open Go Go.Ab
open Classical
variable [Sel] [SelPow] [SelMax]
@[simp] theorem zIs:qZ Tryz.prog 38=true:=by kernel_rfl
@[simp] theorem zIA:z8 Tryz.prog (.func 38)=false:=q9 zIs
abbrev zIu:Cfg:=⟨fun _=>false,fun n=>n==22⟩
set_option maxHeartbeats 8000000 in
theorem zHG (e:Int) (kn:List KnV) (hk:kn.length≤1000000) (hd:∀k∈kn,k.data.length≤1000000000) :
  PC Tryz.prog 38 [.av (.int .i64) (.i .i64 e),.av (.slice 57) (zL kn)] (.av (qD Tryz.prog 41) (zI ⟨2,e,[],kn.map J9⟩)):=by
 refine zow Tryz.func38 zIu fun imm0 w0=>?_
 simp (disch:=omega) [zz,zL]
 refine AT.loop' (α:=Nat) (fun k=>St.of [(4,.loc 4 []),(5,.loc 5 []),(10,.av (.slice 57) (zL kn)),(11,.av (.int .i64) (.i .i64 kn.length)),(12,.av (.int .i64) (.i .i64 k))] [(4,(qD Tryz.prog 41,.agg [.i .i64 0,.i .i64 0,.sl .full [],.sl .full []])),(5,(qD Tryz.prog 41,.agg [.i .i64 2,.i .i64 e,.sl .full [],.sl (tkG 21 k) ((kn.map (qI ∘ J9)).take k)]))] (fun j=>if j=21 then k else 0) [])
  (fun k=>k≤kn.length) (fun k=>kn.length-k) 0 ?_ ?_ ?_
 ·apply Le.of<;>simp[qU,qG,zX,tkG,zL]<;>try omega
 ·omega
 rintro k hk2 KL hN hE
 refine qM (cf:=zIu) laid mixed _ _ _ (by kernel_rfl) ?_
 by_cases hlt:k<kn.length
 ·have hlt':(k:Int)<kn.length:=by omega
  have hg:=KB zH kn k hlt
  have hdk:=hd _ (List.getElem_mem hlt)
  have hst:(kn.map (qI ∘ J9)).take (k+1)=(kn.map (qI ∘ J9)).take k++[qI (J9 kn[k])]:=by
   rw[List.take_succ_eq_append_getElem (by simpa using hlt)];simp
  obtain⟨q,hq⟩:∃q,q=kn[k]:=⟨_,rfl⟩
  rw[←hq]at hg hdk hst
  have hqe:=(vU q).1
  simp (disch:=omega) [zz,hlt',hlt,hg,zL]
  (repeat with_reducible refine om ?_)
  refine jC (zDP q hdk) rfl rfl (by simp) (by simp[qS,coC,TV.er,AV.er,hqe]) ?_
  simp (disch:=omega) [zz]
  (repeat with_reducible refine om ?_)
  refine zD9 (by simp) (by simp;omega) (by simp;omega) (by simp) (by simp) ?_
  simp (disch:=omega) [zz]
  (repeat with_reducible refine om ?_)
  refine hN _ (k+1) ?_ (by omega) (by omega)
  apply Le.of<;>simp[qU,qG,zX,hst,zL]<;>try omega
  all_goals (intro j;by_cases hj:j=21<;>simp[hj])
 ·have hlt':¬(k:Int)<kn.length:=by omega
  simp (disch:=omega) [zz,hlt',zL]
  refine hE _ _ (by simp) ?_
  rw[List.take_of_length_le (by simp;omega)]
  simp (disch:=omega) [zz,Tryz.f38,zI,qF,zU,AV.ers_eq,Function.comp_def]
def Led {α:Type} (M:List α→Bool) (s:List α) (at_:Nat→Bool):Prop:=∃k,k≤s.length∧at_ k=true∧M (s.drop k)=true
def VK (at_:Nat→Bool):Nat→Bool
 | 0=>at_ 0
 | k+1=>at_ (k+1)||VK at_ k
def cA (at_:Nat→Bool):Nat→Bool
 | 0=>false
 | k+1=>at_ k||cA at_ k
def zbv {α:Type} (f:α→Bool) (s:List α) (at_:Nat→Bool):Nat→Bool
 | 0=>false
 | k+1=>at_ k&&(match s[k]? with|some c=>f c|none=>false)
theorem gY (at_:Nat→Bool):∀k,VK at_ k=true↔∃j,j≤k∧at_ j=true
 | 0=>by
  simp only[VK]
  exact⟨fun h=>⟨0,by omega,h⟩,fun⟨j,h1,h2⟩=>by rwa[show j=0 by omega]at h2⟩
 | k+1=>by
  simp only[VK,Bool.or_eq_true,gY at_ k]
  constructor
  ·rintro(h|⟨j,h1,h2⟩)
   ·exact⟨k+1,by omega,h⟩
   ·exact⟨j,by omega,h2⟩
  ·rintro⟨j,h1,h2⟩
   by_cases h:j=k+1
   ·subst h;exact .inl h2
   ·exact .inr ⟨j,by omega,h2⟩
theorem zax (at_:Nat→Bool):∀k,cA at_ k=true↔∃j,j<k∧at_ j=true
 | 0=>by simp[cA]
 | k+1=>by
  simp only[cA,Bool.or_eq_true,zax at_ k]
  constructor
  ·rintro(h|⟨j,h1,h2⟩)
   ·exact⟨k,by omega,h⟩
   ·exact⟨j,by omega,h2⟩
  ·rintro⟨j,h1,h2⟩
   by_cases h:j=k
   ·subst h;exact .inl h2
   ·exact .inr ⟨j,by omega,h2⟩
theorem zd6 {α:Type} (M:List α→Bool) (s:List α):Led M s (fun k=>decide (k=0))↔M s=true:=by
 constructor
 ·rintro⟨k,h1,h2,h3⟩
  have:k=0:=by simpa using h2
  subst this;simpa using h3
 ·exact fun h=>⟨0,by omega,by simp,by simpa using h⟩
theorem zbE {α:Type} (s:List α) (at_:Nat→Bool):Led List.isEmpty s at_↔at_ s.length=true:=by
 constructor
 ·rintro⟨k,h1,h2,h3⟩
  have h4:s.drop k=[]:=by simpa using h3
  have h5:=congrArg List.length h4
  rw[List.length_drop]at h5
  have:k=s.length:=by simp at h5;omega
  subst this;exact h2
 ·exact fun h=>⟨s.length,by omega,h,by simp⟩
theorem zdM {α:Type} {M S:List α→Bool} (hS:∀s,S s=true↔∃n,n≤s.length∧M (s.drop n)=true) (s:List α) (at_:Nat→Bool):Led S s at_↔Led M s (VK at_):=by
 constructor
 ·rintro⟨k,h1,h2,h3⟩
  obtain⟨n,h4,h5⟩:=(hS _).1 h3
  rw[List.length_drop]at h4
  rw[List.drop_drop]at h5
  exact⟨k+n,by omega,(gY at_ _).2 ⟨k,by omega,h2⟩,h5⟩
 ·rintro⟨k,h1,h2,h3⟩
  obtain⟨j,h4,h5⟩:=(gY at_ _).1 h2
  refine⟨j,by omega,h5,(hS _).2 ⟨k-j,by rw[List.length_drop];omega,?_⟩⟩
  rw[List.drop_drop,show j+(k-j)=k by omega];exact h3
theorem zhR {α:Type} {S:List α→Bool} (hS:∀s,S s=!s.isEmpty) (s:List α) (at_:Nat→Bool):Led S s at_↔Led List.isEmpty s (cA at_):=by
 rw[zbE,zax]
 constructor
 ·rintro⟨k,h1,h2,h3⟩
  rw[hS]at h3
  have h4:s.drop k≠[]:=by simpa using h3
  refine⟨k,Nat.lt_of_not_le fun h=>h4 (List.drop_of_length_le h),h2⟩
 ·rintro⟨j,h1,h2⟩
  refine⟨j,by omega,h2,?_⟩
  rw[hS,List.drop_eq_getElem_cons h1];rfl
theorem zfF {α:Type} {M S:List α→Bool} {f:α→Bool} (h0:S []=false) (h1:∀c cs,S (c::cs)=(f c&&M cs)) (s:List α) (at_:Nat→Bool):Led S s at_↔Led M s (zbv f s at_):=by
 constructor
 ·rintro⟨k,h2,h3,h4⟩
  by_cases hk:k<s.length
  ·rw[List.drop_eq_getElem_cons hk,h1,Bool.and_eq_true]at h4
   refine⟨k+1,by omega,?_,h4.2⟩
   simp only[zbv,h3,Bool.true_and,List.getElem?_eq_getElem hk];exact h4.1
  ·rw[List.drop_of_length_le (by omega),h0]at h4;cases h4
 ·rintro⟨k,h2,h3,h4⟩
  cases k with
  | zero=>cases h3
  | succ k =>
   have hk:k<s.length:=by omega
   simp only[zbv,Bool.and_eq_true,List.getElem?_eq_getElem hk]at h3
   refine⟨k,by omega,h3.1,?_⟩
   rw[List.drop_eq_getElem_cons hk,h1,h3.2,h4];rfl
theorem zaT (f:List Txt→Bool):∀s:List Txt,xQ f s=true↔∃n,n≤s.length∧f (s.drop n)=true
 | []=>by
  simp only[xQ]
  exact⟨fun h=>⟨0,by simp,h⟩,by rintro⟨n,_,h⟩;simpa using h⟩
 | c::cs=>by
  have ih:=zaT f cs
  simp only[xQ,Bool.or_eq_true,ih]
  constructor
  ·rintro(h|⟨n,h1,h2⟩)
   ·exact⟨0,by simp,h⟩
   ·exact⟨n+1,by simp;omega,by simpa using h2⟩
  ·rintro⟨n,h1,h2⟩
   cases n with
   | zero=>exact .inl h2
   | succ n=>exact .inr ⟨n,by simp at h1;omega,by simpa using h2⟩
def ziM (c:UInt8) (s:List UInt8) (at_:Nat→Bool):Nat→Bool :=
 if c=42 then VK at_ else zbv (fun x=>decide (c=63)||decide (c=x)) s at_
theorem zlC (c:UInt8) (ps s:List UInt8) (at_:Nat→Bool):Led (wV (c::ps)) s at_↔Led (wV ps) s (ziM c s at_):=by
 unfold ziM
 by_cases h:c=42
 ·subst h
  rw[if_pos rfl]
  exact zdM (fun s=>by rw[XZ];exact KQ _ s) s at_
 ·rw[if_neg h]
  exact zfF (by simp[wV,h]) (fun x xs=>by simp[wV,h]) s at_
theorem ziQ (s:List UInt8) (at_:Nat→Bool):Led (wV []) s at_↔at_ s.length=true:=by
 rw[←zbE];exact Iff.of_eq (congrArg (fun M=>Led M s at_) (funext fun s=>by cases s<;>rfl))
def zaa (x:Txt) (last:Bool) (ns:List Txt) (at_:Nat→Bool):Nat→Bool :=
 if x=[42,42] then(if last then cA at_ else VK at_) else zbv (wV x) ns at_
theorem ziO (x:Txt) (xs ns:List Txt) (at_:Nat→Bool):Led (kE (x::xs)) ns at_↔Led (kE xs) ns (zaa x xs.isEmpty ns at_):=by
 unfold zaa
 by_cases h:x=[42,42]
 ·subst h
  rw[if_pos rfl]
  cases xs with
  | nil =>
   refine(zhR (fun s=>by cases s<;>rfl) ns at_).trans ?_
   exact Iff.of_eq (congrArg (fun M=>Led M ns _) (funext fun s=>by cases s<;>rfl))
  | cons y r =>
   simp only[List.isEmpty_cons,Bool.false_eq_true,if_false]
   exact zdM (fun s=>by rw[UM (by simp)];exact zaT _ s) ns at_
 ·rw[if_neg h]
  exact zfF (by simp[kE,h]) (fun c cs=>zad h) ns at_
theorem zhq (ns:List Txt) (at_:Nat→Bool):Led (kE []) ns at_↔at_ ns.length=true:=by
 rw[←zbE];exact Iff.of_eq (congrArg (fun M=>Led M ns at_) (funext fun s=>by cases s<;>rfl))
end Go.Proofs.YtooipdkilgpojaaGreatDoor
end
