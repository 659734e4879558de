/- One that is not great fits: plain. No condition beyond each theorem's own. -/
import Derived.Test.YtcioeonlclpacaaGreatDoorKE5ToKL0
import Derived.Test.YtcioeonlclpacaaGreatDoorKL1ToKL3
import Derived.Test.YtcioeonlclpacaaGreatDoorKE3ToKD2
set_option linter.unusedSimpArgs false
set_option linter.unusedVariables false
set_option linter.unusedSectionVars false
section
set_option maxRecDepth 100000
namespace Go.Proofs.YtcioeonlclpacaaGreatDoor
open Go Go.Ab
open Classical
variable [Sel] [SelPow] [SelErr]
def wtX (l:List (List UInt8)):Nat:=(l.map fun s=>2*s.length+2).sum
theorem zLO (a b:List (List UInt8)):wtX (a++b)=wtX a+wtX b:=by simp[wtX]
theorem zKG (s:List UInt8) (l:List (List UInt8)):wtX (s::l)=(2*s.length+2)+wtX l:=by simp[wtX]
theorem zLN:wtX []=0:=rfl
theorem zLh:∀l:List (List UInt8),(WI l).length≤wtX l
 | []=>by simp[WI]
 | s::l=>by
  have ih:=zLh l
  have h2:=zDw s.length
  rw[zyI,zyP,zKG]
  simp only[List.length_append,List.length_cons]
  omega
theorem zMJ:∀l:List XF,(∀r∈l,r.sum.length=32)→wtX (l.flatMap zD8)≤2*szR l+68*l.length
 | [],_=>by simp[wtX]
 | r::l,h=>by
  have ih:=zMJ l fun x hx=>h x (by simp[hx])
  have hr:=h r (by simp)
  have e:(if r.is then r.sum else []).length≤32:=by split<;>simp_all
  rw[List.flatMap_cons,zLO]
  simp only[zD8,zKG,zLN,szR,List.map_cons,List.sum_cons,List.length_cons]at ih ⊢
  omega
theorem zMA:∀l:List U1,wtX ((l.map zJF).flatMap zDa)≤2*szO l+68*l.length
 | []=>by simp[wtX]
 | f::l=>by
  have ih:=zMA l
  have hs:=zKU f.data
  rw[List.map_cons,List.flatMap_cons,zLO]
  simp only[zDa,zJF,zKG,zLN,szO,List.map_cons,List.sum_cons,List.length_cons]at ih ⊢
  omega
theorem zP2:∀l:List XF,10*l.length≤szR l
 | []=>by simp
 | r::l=>by
  have ih:=zP2 l
  simp only[szR,List.map_cons,List.sum_cons,List.length_cons]at ih ⊢
  omega
theorem zKh:∀ {l:List U1} {f:U1},f∈l→f.data.length+f.path.length<szO l
 | g::l,f,h=>by
  rcases List.mem_cons.1 h with rfl|h
  ·simp only[szO,List.map_cons,List.sum_cons];omega
  ·have:=zKh h
   simp only[szO,List.map_cons,List.sum_cons]at this ⊢;omega
theorem zNG:∀ {l:List XF} {r:XF},r∈l→r.path.length<szR l
 | g::l,r,h=>by
  rcases List.mem_cons.1 h with rfl|h
  ·simp only[szR,List.map_cons,List.sum_cons];omega
  ·have:=zNG h
   simp only[szR,List.map_cons,List.sum_cons]at this ⊢;omega
theorem zN3 (n:Int):(kdI n).length=32:=by simp[kdI]
theorem zSF (o:zJk) (hr:∀r∈o.reads,r.sum.length=32):TrD (trO o) :=
 ⟨zN3 _,hr,fun m hm=>by
  obtain⟨f,_,rfl⟩:=List.mem_map.1 hm
  exact zKU _⟩
theorem zOY (s:List UInt8):(zJf s).length≤2*s.length+12:=by
 have:=zLh [blobW,s]
 simp only[zKG,zLN]at this
 have e:blobW.length=4:=rfl
 unfold zJf;omega
theorem zP4 {o:zJk} (hr:∀r∈o.reads,r.sum.length=32) (hs:szO o.outs+szR o.reads≤2500):(zJG (trO o)).length≤800000:=by
 have h1:=zLh [traceW,zL2 (trO o)]
 have h2:(zL2 (trO o)).length≤wtX (zCY (trO o)):=by unfold zL2;split<;>first|exact zLh _|simp
 have h3:wtX (zCY (trO o))=wtX [(trO o).key,Lib.itoa (trO o).reads.length]+wtX (o.reads.flatMap zD8)+wtX ((o.outs.map zJF).flatMap zDa):=by
  unfold zCY;rw[zLO,zLO];rfl
 have h4:=zMJ o.reads hr
 have h5:=zMA o.outs
 have h6:=zP2 o.reads
 have h7:=zKn o.outs
 have h8:(trO o).key.length=32:=zN3 _
 have h9:(Lib.itoa ((trO o).reads.length:Int)).length≤o.reads.length+1:=by rw[zyP];exact zDw _
 simp only[zKG,zLN]at h1 h3
 have e:traceW.length=5:=rfl
 unfold zJG
 omega
theorem zQu {o:zJk} (hr:∀r∈o.reads,r.sum.length=32) (hc:zCW (trO o)=0) (hs:szO o.outs+szR o.reads≤2500):zOF (trO o) o.outs :=
 ⟨⟨zSF o hr,hc⟩,rfl,fun f hf=>by
  have:=zOY f.data
  have:=zKh hf
  omega,by have:=zP4 hr hs;omega⟩
theorem zQZ:∀l:List U1,wtO l≤24*szO l+24*l.length
 | []=>by simp[wtO]
 | f::l=>by
  have ih:=zQZ l
  have:=zOY f.data
  simp only[wtO,wtB,szO,List.map_cons,List.sum_cons,List.length_cons]at ih this ⊢
  omega
theorem zOq {o:zJk} (hr:∀r∈o.reads,r.sum.length=32) (hs:szO o.outs+szR o.reads≤2500):wtO o.outs+wtT (trO o)≤1000000:=by
 have h1:=zP4 hr hs
 have h2:=zQZ o.outs
 have h3:=zKn o.outs
 unfold wtT
 omega
theorem zRW {mo:Nat} (h1:1≤mo) (h8:mo≤8) {d:DV} {l:List (List UInt8)} {M:MV} (h:Op d l (openJ d)) (hl:j5 mo l ⟨[],[]⟩=(M,0)):zJv mo d=((openJ d).1,some ⟨⟨(openJ d).1,false⟩,mo,M⟩,0):=by
 have e1:(openJ d).2.1=0:=by rw[h.e]
 have e2:(openJ d).2.2=l:=by rw[h.e]
 unfold zJv
 rw[if_neg (by omega),if_neg (by rw[e1];decide),e2]
 have e3:(Int.toNat mo)=mo:=by omega
 rw[e3,hl,if_neg (by simp)]
theorem zO5 {mo:Nat} (h1:1≤mo) (h8:mo≤8):zJv mo zJe=(zJe,some ⟨⟨zJe,false⟩,mo,⟨[],[]⟩⟩,0):=by
 have e:openJ zJe=(zJe,0,[]):=by
  simp[openJ,zKc,W2,zJe,zK6,zKT,q5]
 unfold zJv
 rw[if_neg (by omega),e]
 simp[j5]
def zKM (l:List U1) (bl:BlL):Bool:=l.all fun f=>zJl (sha f.data) bl&&decide ((((bl.find? fun p=>decide (p.1=sha f.data)).map Prod.snd).getD [])=f.data)
theorem zOu {l:List U1} {bl:BlL} {f:U1} (hf:f∈l) (h:(zJl (sha f.data) bl&&decide ((((bl.find? fun p=>decide (p.1=sha f.data)).map Prod.snd).getD [])=f.data))=false):zKM l bl=false:=by
 unfold zKM
 rw[List.all_eq_false]
 exact⟨f,hf,by rw[h];simp⟩
set_option maxHeartbeats 8000000 in
theorem zMH (K B M:Nat) (a:KA) (k:KV) (hk:zJL a k) (hTS:a.T≠a.S) (l:List U1) (hl:l.length≤1000000000) (hd:∀f∈l,f.data.length≤1000000000) :
  q7 Tryz.prog 20 [.av .ptr (.ptr K KpT []),.av (.slice 36) (zU l)] (kpH K B M a k) fun r H'=>r=.av .bool (.b (zKM l k.M.bl))∧H'=kpH K B M a k:=by
 have hoe:zU l=.sl .no (l.map jZ):=rfl
 refine zov Tryz.func20 cf0 fun imm0 w0=>?_
 simp (disch:=omega) [zz,hoe]
 refine AT.loop' (α:=Nat) (fun i=>St.of [(0,.av .ptr (.ptr K KpT [])),(9,.av (.slice 36) (.sl .no (l.map jZ))),(10,.av (.int .i64) (.i .i64 l.length)),(11,.av (.int .i64) (.i .i64 i))] [] (fun _=>0) (kpH K B M a k))
  (fun i=>i≤l.length∧∀f∈l.take i,(zJl (sha f.data) k.M.bl&&decide ((((k.M.bl.find? fun p=>decide (p.1=sha f.data)).map Prod.snd).getD [])=f.data))=true) (fun i=>l.length-i) 0 ?_ ?_ ?_
 ·apply Le.of<;>simp[qU,qG,qO,qH,qP,qK,qF,qI,qJ,qN,hoe]<;>try omega
 ·simp
 rintro i ⟨hi,hall⟩ KL hN hE
 refine qM (cf:=cf0) laid mixed _ _ _ (by kernel_rfl) ?_
 by_cases hlt:i<l.length
 ·have hlt':(i:Int)<l.length:=by omega
  have hgf:=zK1 l i hlt
  have hmem:=List.getElem_mem hlt
  have htk:l.take (i+1)=l.take i++[l[i]]:=List.take_succ_eq_append_getElem hlt
  obtain⟨f,hf⟩:∃f,f=l[i]:=⟨_,rfl⟩
  rw[←hf]at hgf hmem htk
  have hsum:=zNr f.data (by have:=hd f hmem;omega)
  have hbl:=zMZ K B M a k hk hTS (sha f.data)
  obtain⟨w,hw⟩:∃w,w=((k.M.bl.find? fun p=>decide (p.1=sha f.data)).map Prod.snd).getD []:=⟨_,rfl⟩
  obtain⟨h,hh⟩:∃h,h=zJl (sha f.data) k.M.bl:=⟨_,rfl⟩
  rw[←hw,←hh]at hbl
  simp (disch:=omega) [zz,hlt',hgf,jZ]
  refine zcv hsum ?_
  simp (disch:=omega) [zz]
  refine qE (kpH K B M a k) [] (by simp) rfl (by simp[qQ]) (by simp) (R:=fun r H'=>r=.tup [(.str,.s w),(.bool,.b h)]∧H'=kpH K B M a k) ?_ ?_
  ·rw[u4 hk]
   simpa[TV.er,AV.er]using hbl
  rintro r' H' ⟨rfl,rfl⟩ _
  refine⟨_,by rw[List.append_nil];exact HSub.refl _,?_⟩
  by_cases hg:h=true∧w=f.data
  ·obtain⟨rfl,hg2⟩:=hg
   simp (disch:=omega) [zz,hg2]
   refine hN _ (i+1) ?_ ⟨by omega,fun g hg=>?_⟩ (by omega)
   ·apply Le.of<;>simp[qU,qG,qO,qH,qP,qK,qF,qI,qJ,qN,]<;>try omega
   ·rw[htk]at hg
    rcases List.mem_append.1 hg with hg|hg
    ·exact hall g hg
    ·rw[List.mem_singleton.1 hg,←hw,←hh,hg2];simp
  ·have hb:zKM l k.M.bl=false:=zOu hmem (by rw[←hw,←hh];cases h<;>simp_all)
   cases h with
   | false =>
    simp (disch:=omega) [zz]
    refine hE _ _ (by simp) ?_
    simp (disch:=omega) [zz,Tryz.f20,hb,u4 hk]
   | true =>
    have hw2:¬w=f.data:=fun e=>hg ⟨rfl,e⟩
    simp (disch:=omega) [zz,hw2]
    refine hE _ _ (by simp) ?_
    simp (disch:=omega) [zz,Tryz.f20,hb,u4 hk]
 ·have htk:l.take i=l:=List.take_of_length_le (by omega)
  have hlt':¬(i:Int)<l.length:=by omega
  rw[htk]at hall
  have hb:zKM l k.M.bl=true:=List.all_eq_true.2 hall
  simp (disch:=omega) [zz,hlt']
  refine hE _ _ (by simp) ?_
  simp (disch:=omega) [zz,Tryz.f20,hb,u4 hk]
def zOE:zJk:=⟨0,[],[],0⟩
set_option maxHeartbeats 4000000 in
theorem zPS (l:List zJk) (hl:l.length≤9223372036854775807):PC Tryz.prog 9 [.av (.slice 29) (.sl .no (l.map y3))] (.av zSb (y3 (l.headD zOE))):=by
 refine zow Tryz.func9 cf0 fun imm0 w0=>?_
 cases l with
 | nil=>simp (disch:=omega) [zz,Tryz.f9,zOE,y3,qF,zU]
 | cons o l =>
  have he:=zKP o
  obtain⟨e,hee⟩:∃e,e=y3 o:=⟨_,rfl⟩
  have hlt:(0:Int)<l.length+1:=by omega
  simp only[List.map_cons,List.headD_cons,←hee]at he ⊢
  simp (disch:=omega) [zz,hlt,he,Tryz.f9]
theorem zNw (d:Dig) (x:List UInt8):∀l:BlL,(l.find? fun p=>decide (p.1=d))=some (d,x)→xX (KW d) (.s x) (stE l)=stE l
 | [],h=>by cases h
 | p::l,h=>by
  rw[List.find?_cons]at h
  by_cases hk:p.1=d
  ·simp only[hk,decide_true]at h
   cases h
   simp[stE,xX]
  ·simp only[hk,decide_false]at h
   have ih:=zNw d x l h
   simp only[stE,List.map_cons,xX,ziF,hk,if_false]at ih ⊢
   rw[ih]
structure zJI (l:List (List UInt8)) (s:BlL):Prop where
 got:∀a∈l,s.find? (fun p=>decide (p.1=sha a))=some (sha a,a)
 is:∀p∈s,p.1=sha p.2∧p.2∈l
theorem zJI.nil:zJI [] []:=⟨by simp,by simp⟩
theorem zJI.apart {l:List (List UInt8)} {s:BlL} (h:zJI l s):zJX l:=fun a ha b hb e=>by
 have h1:=h.got a ha
 rw[e,h.got b hb]at h1
 cases h1;rfl
theorem zJI.old {l:List (List UInt8)} {s:BlL} (h:zJI l s) {x:List UInt8} (hx:s.find? (fun p=>decide (p.1=sha x))=some (sha x,x)):zJI (l++[x]) s :=
 ⟨fun a ha=>by
  rcases List.mem_append.1 ha with h1|h1
  ·exact h.got a h1
  ·rw[List.mem_singleton.1 h1];exact hx,fun p hp=>⟨(h.is p hp).1,List.mem_append_left _ (h.is p hp).2⟩⟩
theorem zJI.new {l:List (List UInt8)} {s:BlL} (h:zJI l s) {x:List UInt8} (hx:s.find? (fun p=>decide (p.1=sha x))=none):zJI (l++[x]) (s++[(sha x,x)]):=by
 refine⟨fun a ha=>?_,fun p hp=>?_⟩
 ·rw[List.find?_append]
  rcases List.mem_append.1 ha with h1|h1
  ·rw[h.got a h1];rfl
  ·rw[List.mem_singleton.1 h1,hx];simp
 ·rcases List.mem_append.1 hp with h1|h1
  ·exact⟨(h.is p h1).1,List.mem_append_left _ (h.is p h1).2⟩
  ·rw[List.mem_singleton.1 h1];exact⟨rfl,by simp⟩
theorem zJI.bad {l:List (List UInt8)} {s:BlL} (h:zJI l s) {x y:List UInt8} {m:List (List UInt8)} {d:Dig} (hx:s.find? (fun p=>decide (p.1=sha x))=some (d,y)) (hne:y≠x) (hl:∀a∈l,a∈m) (hm:x∈m):¬zJX m:=fun ha=>by
 obtain⟨h1,h2⟩:=zKz hx
 obtain⟨h3,h4⟩:=h.is _ h1
 simp only at h2 h3 h4
 exact hne (ha y (hl y h4) x hm (by rw[←h3,h2]))
noncomputable def apI (l:List (List UInt8)):Int:=if zJX l then 1 else 0
set_option maxHeartbeats 16000000 in
theorem zQj (l:List (List UInt8)) (hl:l.length≤1000000000) (hx:∀x∈l,x.length≤1000000000):PC Tryz.prog 10 [.av (.slice 9) (.sl .no (zz6 l))] (.av (.int .i64) (.i .i64 (apI l))):=by
 refine q7.sub (R:=fun r H'=>r=.av (.int .i64) (.i .i64 (apI l))) ?_ (fun r H' hr _=>⟨[],HSub.of_sub (List.nil_sublist _),hr,rfl⟩)
 refine zov Tryz.func10 cf0 fun imm0 w0=>?_
 simp (disch:=omega) [zz]
 intro b
 refine AT.loop' (α:=Nat × BlL) (fun x=>St.of [(3,.av (.map 46 9) (.map (some b))),(10,.av (.slice 9) (.sl .no (zz6 l))),(11,.av (.int .i64) (.i .i64 l.length)),(12,.av (.int .i64) (.i .i64 x.1))] [] (fun _=>0) [(b,.map 46 9 (stE x.2))])
  (fun x=>x.1≤l.length∧zJI (l.take x.1) x.2) (fun x=>l.length-x.1) (0,[]) ?_ ?_ ?_
 ·apply Le.of<;>simp[qU,qG,qO,qH,qP,qK,qF,qI,qJ,qN,stE]<;>try omega
 ·exact⟨by simp,zJI.nil⟩
 rintro⟨i,s⟩ ⟨hi,hs⟩ KL hN hE
 simp only at hi hs hN
 refine qM (cf:=cf0) laid mixed _ _ _ (by kernel_rfl) ?_
 by_cases hlt:i<l.length
 ·have hlt':(i:Int)<l.length:=by omega
  have hgn:=zzr l i hlt
  have htk:l.take (i+1)=l.take i++[l[i]]:=List.take_succ_eq_append_getElem hlt
  have hmem:=List.getElem_mem hlt
  obtain⟨x,hxe⟩:∃x,x=l[i]:=⟨_,rfl⟩
  rw[←hxe]at hgn htk hmem
  have hsum:=zNr x (by have:=hx x hmem;omega)
  simp (disch:=omega) [zz,hlt',hgn]
  refine zcv hsum ?_
  have hfd:=zLm (sha x) s
  cases hf:s.find? (fun p=>decide (p.1=sha x))with
  | none =>
   rw[hf]at hfd
   have hpt:=zNm (sha x) x s hf
   simp (disch:=omega) [zz,hfd]
   refine hN _ (i+1,s++[(sha x,x)]) ?_ ⟨by simp only;omega,by simp only;rw[htk];exact hs.new hf⟩ (by simp only;omega)
   apply Le.of<;>simp[qU,qG,qO,qH,qP,qK,qF,qI,qJ,qN,hpt]<;>try omega
  | some p =>
   obtain⟨d,y⟩:=p
   rw[hf]at hfd
   by_cases hy:y=x
   ·subst hy
    have hd:=(zKz hf).2
    simp only at hd
    subst hd
    have hpt:=zNw (sha y) y s hf
    simp (disch:=omega) [zz,hfd]
    refine hN _ (i+1,s) ?_ ⟨by simp only;omega,by simp only;rw[htk];exact hs.old hf⟩ (by simp only;omega)
    apply Le.of<;>simp[qU,qG,qO,qH,qP,qK,qF,qI,qJ,qN,hpt]<;>try omega
   ·have hb:=hs.bad (m:=l) hf hy (fun a ha=>List.mem_of_mem_take ha) hmem
    simp (disch:=omega) [zz,hfd,hy]
    refine hE _ _ (by simp) ?_
    simp (disch:=omega) [zz,Tryz.f10,apI,hb]
 ·have htk:l.take i=l:=List.take_of_length_le (by omega)
  have hlt':¬(i:Int)<l.length:=by omega
  rw[htk]at hs
  simp (disch:=omega) [zz,hlt']
  refine hE _ _ (by simp) ?_
  simp (disch:=omega) [zz,Tryz.f10,apI,hs.apart]
theorem zOM (K B M:Nat) (a:KA) (k:KV):(kpH K B M a k).Perm (j4 B M a.o k.j.d++((a.J,jnO B k.j.br)::(K,kpO a)::(DbH a.D a.E k.mo a.cs++stB a.S a.T k.M.bl))):=by
 refine(zOR K B M a k).trans ?_
 unfold jH
 rw[List.cons_append]
 exact List.perm_middle.symm
theorem zKi {s:St} {dst:Option Nat} {X:St→Prop} {args bs:List TV} {f:Nat} {R0:TV} {k':KV} (K B M:Nat) (a:KA) (k:KV) (hk:zJL a k) (rest:q8) (hH:s.H.Perm (kpH K B M a k++rest))
  (hc:q7 Tryz.prog f bs (kpH K B M a k) fun r H'=>r=R0∧KpR K B M k' H') (hf:qZ Tryz.prog f=true) (ha:args.all qQ=true) (hx:qS (args.map TV.er) bs)
  (hX:∀a',zJL a' k'→KNE K B M a'→X (({ s with H:=kpH K B M a' k'++rest }:St).put dst R0)):ZP Tryz.prog s (.av .func (.fn f [])) args dst X:=by
 refine qE (kpH K B M a k) rest hH rfl ha hf (R:=fun r H'=>r=R0∧KpR K B M k' H') ?_ ?_
 ·rw[u4 hk]
  exact q7.args hc (by simpa using hx)
 rintro r' H' ⟨rfl,a',hk',rfl⟩ hnd
 refine⟨_,HSub.refl _,hX a' hk' (zOX (k:=k') ?_)⟩
 rw[q8.keys_app]at hnd
 exact(List.nodup_append.1 hnd).1
theorem zJH {s:St} {dst:Option Nat} {X:St→Prop} {args bs:List TV} {f:Nat} {R0:TV} (K B M:Nat) (a:KA) (k:KV) (hk:zJL a k) (rest:q8) (hH:s.H.Perm (kpH K B M a k++rest))
  (hc:q7 Tryz.prog f bs (kpH K B M a k) fun r H'=>r=R0∧H'=kpH K B M a k) (hf:qZ Tryz.prog f=true) (ha:args.all qQ=true) (hx:qS (args.map TV.er) bs)
  (hX:X (({ s with H:=s.H }:St).put dst R0)):ZP Tryz.prog s (.av .func (.fn f [])) args dst X:=by
 refine qE (kpH K B M a k) rest hH rfl ha hf (R:=fun r H'=>r=R0∧H'=kpH K B M a k) ?_ ?_
 ·rw[u4 hk]
  exact q7.args hc (by simpa using hx)
 rintro r' H' ⟨rfl,rfl⟩ _
 exact⟨s.H,HSub.of_perm hH.symm,hX⟩
theorem zK5 {s:St} {dst:Option Nat} {X:St→Prop} {args:List TV} {d':DV} {k:KV} (B M:Nat) (hBM:M≠B) (o:Bool) (d:DV) (mo:Int) (N:Nat) (hN:N≤1000000000) (hd:g8 N d) (ho:zJv mo d=(d',some k,0)) (rest:q8) (hH:s.H.Perm (j4 B M o d++rest))
  (ha:args.all qQ=true) (hx:qS (args.map TV.er) [.av .ptr (.ptr B zJB []),.av (.int .i64) (.i .i64 mo)])
  (hX:∀K a,zJL a k→KNE K B M a→X (({ s with H:=kpH K B M a k }:St).put dst (.tup [(.ptr,.ptr K KpT []),(.int .i64,.i .i64 0)]))):ZP Tryz.prog s (.av .func (.fn 12 [])) args dst X:=by
 refine qE (j4 B M o d) rest hH rfl ha (by simp) (R:=zKD B M (zJv mo d)) ?_ ?_
 ·rw[zKy]
  exact q7.args (zQH B M hBM o d mo N hN hd) (by simpa using hx)
 rw[ho]
 rintro r' H' (⟨h,_⟩|⟨k2,K,hk2,rfl,a,hka,rfl⟩) hnd
 ·cases h
 ·simp only[Option.some.injEq]at hk2
  subst hk2
  refine⟨_,HSub.of_sub (List.sublist_append_left _ _),hX K a hka (zOX (k:=k) ?_)⟩
  rw[q8.keys_app]at hnd
  exact(List.nodup_append.1 hnd).1
theorem zLD {s:St} {dst:Option Nat} {X:St→Prop} {args:List TV} (B M:Nat) (hBM:M≠B) (o:Bool) (d:DV) (hd:DOK d) (hz:szF d.m≤1000000000000∧szF d.n≤1000000000000) (ps:List Int) (hps:ps.length≤1000000000) (rest:q8) (hH:s.H.Perm (j4 B M o d++rest))
  (ha:args.all qQ=true) (hx:qS (args.map TV.er) [.av .ptr (.ptr B zJB []),.av (.slice 3) (zJY ps)])
  (hX:∀B2 M2 o2,M2≠B2→X (({ s with H:=j4 B2 M2 o2 (zJh ps d) }:St).put dst (.av .ptr (.ptr B2 zJB [])))):ZP Tryz.prog s (.av .func (.fn 17 [])) args dst X:=by
 refine qE (j4 B M o d) rest hH rfl ha (by simp) (R:=CrR B M o d (zJh ps d)) ?_ ?_
 ·rw[zKy]
  exact q7.args (zPk B M hBM o d hd hz ps hps) (by simpa using hx)
 rintro r' H' ⟨B2,M2,o2,h,rfl,rfl⟩ _
 refine⟨_,HSub.of_sub ?_,hX B2 M2 o2 h⟩
 rw[List.append_assoc]
 exact List.sublist_append_left _ _
theorem zJS.up {N N':Nat} {k:KV} (h:zJS N k) (hN:N≤N'):zJS N' k:=zJS.mk' (h.mem.up hN) (h.of.up hN) h.lo h.hi
theorem disk0:g8 0 zJe:=⟨zRq,Nat.le_refl _,Nat.le_refl _⟩
def aOne:zJk:=⟨0,[],[⟨[111,117,116,47,111],[120]⟩],0⟩
theorem zOx:zuT [111,117,116,47,111] zwB=true:=by decide
theorem zM9:zCW (trO aOne)=0:=by
 simp[zCW,trO,aOne,zD1,zD4,zJF,zOx]
theorem zQz:zOF (trO aOne) aOne.outs:=zQu (by simp[aOne]) zM9 (by simp[aOne,szO,szR])
theorem zQY:zJj 2 [] (trO aOne)=[(kdI 0,[trO aOne])]:=by
 simp only[zJj,zM9,if_true]
 simp[getD,zJA,zJr,kp,trO,aOne]
theorem zPm:zJE aOne.outs []=[(sha [120],[120])]:=by simp[zJE,aOne,zJm]
theorem zQt:((zKJ ([(kdI 0,[trO aOne])].map Prod.fst)).map fun q=>(getD [(kdI 0,[trO aOne])] q).length).sum=1:=by
 have h:=(zKE [kdI 0]).1
 have:zKJ [kdI 0]=[kdI 0]:=List.perm_singleton.1 h
 simp[this,getD]
theorem zQF:qK (trO aOne)=.agg [KW (kdI 0),.sl .no [],.sl .no [.agg [.s [111,117,116,47,111],KW (sha [120])]]]:=by
 simp[qK,trO,aOne,qF,qJ,qN,zJF]
set_option maxHeartbeats 16000000 in
theorem zN6:PC Tryz.prog 7 [] (.av .bool (.b true)):=by
 refine q7.sub (R:=fun r H'=>r=.av .bool (.b true)) ?_ (fun r H' hr _=>⟨[],HSub.of_sub (List.nil_sublist _),hr,rfl⟩)
 have h0:zJv 2 zJe=(zJe,some ⟨⟨zJe,false⟩,2,⟨[],[]⟩⟩,0):=zO5 (mo:=2) (by omega) (by omega)
 obtain⟨k0,hk0⟩:∃k0:KV,k0=⟨⟨zJe,false⟩,2,⟨[],[]⟩⟩:=⟨_,rfl⟩
 rw[←hk0]at h0
 have hI0:zJS 0 k0:=((zMV (mo:=2) disk0).2 k0 (by rw[h0])).1
 have hf0:zJK k0.j.d.m []:=by rw[hk0];exact .inl ⟨rfl,rfl⟩
 have hb0:k0.j.br=false:=by rw[hk0]
 obtain⟨t,ht⟩:∃t,t=trO aOne:=⟨_,rfl⟩
 have hfit:=zQz
 have hg:TrG t:=by rw[ht];exact hfit.g
 have hM0:k0.mo=2∧k0.M=⟨[],[]⟩:=by rw[hk0];exact⟨rfl,rfl⟩
 obtain⟨k1,hk1⟩:∃k1,k1=(g6 t aOne.outs k0).1:=⟨_,rfl⟩
 have hwt:=zOq (o:=aOne) (by simp[aOne]) (by simp[aOne,szO,szR])
 rw[←ht]at hwt hfit
 have hI1:zJS 1000000 k1:=by
  rw[hk1]
  exact(zLx hI0 hg.1 aOne.outs).1.up (by omega)
 have hk:(g6 t aOne.outs k0).2=0∧zJK k1.j.d.m (zLc t aOne.outs []):=by
  rw[hk1]
  rcases zL7 hb0 hf0 hfit with⟨a1,_,a3,_⟩|⟨_,_,a3,_⟩
  ·rw[hM0.2]at a3;exact⟨a1,a3⟩
  ·exact absurd (by rw[hk0];rfl) a3
 have hop:=zKt (zL3 hfit) hk.2 []
 have hld:=zM5 (mo:=2) hfit ⟨[],[]⟩
 have hcv:(zCW t)=0:=hg.2
 have ho:=zRW (mo:=2) (by omega) (by omega) hop hld
 have hL:zJj 2 [] t=[(kdI 0,[trO aOne])]:=by rw[ht];exact zQY
 simp only[hL,zPm]at ho
 obtain⟨d2,hd2⟩:∃d2,d2=(openJ (zJh [] k1.j.d)).1:=⟨_,rfl⟩
 rw[←hd2]at ho
 obtain⟨k2,hk2⟩:∃k2:KV,k2=⟨⟨d2,false⟩,2,⟨[(kdI 0,[trO aOne])],[(sha [120],[120])]⟩⟩:=⟨_,rfl⟩
 rw[←hk2]at ho
 have hv:((k2.M.bl.find? fun p=>decide (p.1=sha [120])).map Prod.snd).getD []=[120]:=by rw[hk2];simp
 have hb:zJl (sha [120]) k2.M.bl=true:=by rw[hk2];simp[zJl]
 have hn:((zKJ (k2.M.L.map Prod.fst)).map fun q=>(getD k2.M.L q).length).sum=1:=by rw[hk2];exact zQt
 have hm:szB k2.M.bl=1:=by rw[hk2];rfl
 have hgd:getD k2.M.L (kdI 0)=[t]:=by rw[hk2,ht];simp[getD]
 have hL2:k2.M.L.length≤1000000∧(∀p∈k2.M.L,p.1.length=32)∧∀q,(getD k2.M.L q).length≤8:=by
  rw[hk2]
  refine⟨by simp,by simp[zN3],fun q=>?_⟩
  by_cases h:kdI 0=q<;>simp[getD,h]
 have hte:qK t=.agg [KW (kdI 0),.sl .no [],.sl .no [.agg [.s [111,117,116,47,111],KW (sha [120])]]]:=by rw[ht];exact zQF
 have hts:qH [t]=.sl .no [qK t]:=rfl
 obtain⟨kd,hkd⟩:∃kd,kd=kdI 0:=⟨_,rfl⟩
 obtain⟨sd,hsd⟩:∃sd,sd=sha [120]:=⟨_,rfl⟩
 rw[←hkd]at hte hgd
 rw[←hsd]at hte hv hb
 refine zov Tryz.func7 cf0 fun imm0 w0=>?_
 simp (disch:=omega) [zz]
 refine qE [] [] (List.Perm.refl _) rfl (by simp[qQ]) (by simp) (R:=fun r H'=>∃B M,M≠B∧r=.av .ptr (.ptr B zJB [])∧H'=j4 B M false zJe) ?_ ?_
 ·simpa[q8.er_nil]using zNl
 rintro r' H' ⟨B,M,hMB,rfl,rfl⟩ _
 refine⟨_,HSub.refl _,?_⟩
 simp (disch:=omega) [zz]
 refine zK5 B M hMB false zJe 2 0 (by omega) disk0 h0 [] (by simp) (by simp[qQ]) (by simp[qS,TV.er,AV.er]) fun K a hka hne=>?_
 simp (disch:=omega) [zz]
 refine qL (zom aOne (by decide) (by decide) (by simp[aOne]) (by simp[aOne]) rfl) rfl rfl (by simp[qQ]) (by simp[qS,TV.er,AV.er,AV.ers,y3,aOne,qF,zU,jZ]) ?_
 have hon:zML aOne=.tup [(TrT,qK t),(.slice 36,zU aOne.outs)]:=by rw[ht];rfl
 simp (disch:=omega) [zz,hon]
 refine zKi K B M a k0 hka [] (by simp) (zM8 K B M a k0 0 hka hI0 t hg.W hg.1 aOne.outs (by simp[aOne]) (by simp[aOne]) (by omega)) (by simp) (by simp[qQ]) (by simp[qS,TV.er,AV.er,zdW]) fun a1 hka1 hne1=>?_
 rw[hk.1]
 rw[←hk1]at hka1 ⊢
 simp (disch:=omega) [zz]
 refine zLD B M hMB a1.o k1.j.d hI1.ok ⟨by have:=hI1.m;omega,by have:=hI1.n;omega⟩ [] (by simp) _ (zOM K B M a1 k1) (by simp[qQ]) (by simp[qS,TV.er,AV.er,zJY]) fun B2 M2 o2 hMB2=>?_
 simp (disch:=omega) [zz]
 refine zK5 B2 M2 hMB2 o2 (zJh [] k1.j.d) 2 1000000 (by omega) (hI1.of.crash []) ho [] (by simp) (by simp[qQ]) (by simp[qS,TV.er,AV.er]) fun K2 a2 hka2 hne2=>?_
 simp (disch:=omega) [zz,hte]
 have hq1:=zMZ K2 B2 M2 a2 k2 hka2 hne2.TS sd
 rw[hv,hb]at hq1
 refine zJH K2 B2 M2 a2 k2 hka2 [] (by simp) hq1 (by simp) (by simp[qQ]) (by simp[qS,TV.er,AV.er]) ?_
 simp (disch:=omega) [zz]
 have hq2:=zMQ K2 B2 M2 a2 k2 hka2 hL2.1 hL2.2.1 hL2.2.2
 rw[hn,hm]at hq2
 refine zJH K2 B2 M2 a2 k2 hka2 [] (by simp) hq2 (by simp) (by simp[qQ]) (by simp[qS,TV.er,AV.er]) ?_
 simp (disch:=omega) [zz]
 have hq3:=zMa K2 B2 M2 a2 k2 hka2 kd
 rw[hgd,hts]at hq3
 refine zJH K2 B2 M2 a2 k2 hka2 [] (by simp) hq3 (by simp) (by simp[qQ]) (by simp[qS,TV.er,AV.er]) ?_
 simp (disch:=omega) [zz,Tryz.f7]
def zLI (o:zJk):Prop:=(∀r∈o.reads,r.sum.length=32)∧szO o.outs+szR o.reads≤100000000
def zNA (i:Nat) (o:zJk):zJk:=⟨i,o.reads,o.outs,0⟩
def zN5 (o:zJk):List zNb:=[⟨0,0,o,[]⟩]
def zRE (i:Nat) (o:zJk):Prop:=zCW (trO (zNA i o))=0∧zKK (zN5 (zNA i o))=false
theorem zM7 {o:zJk} (h:zKK (zN5 o)=false):szO o.outs+szR o.reads≤2500:=by
 simp only[zKK,zN5,zKx,szA,List.map_cons,List.map_nil,List.sum_cons,List.sum_nil,Bool.or_eq_false_iff,decide_eq_false_iff_not]at h
 omega
theorem zNL {o:zJk} (h:zLI o):zKx (zN5 o)≤1000000000000000:=by
 have:=h.2
 simp only[zN5,zKx,szA,List.map_cons,List.map_nil,List.sum_cons,List.sum_nil,List.length_nil]
 omega
theorem zLB {p:Nat→zJk→Prop} (l:List zJk):∀k,(∃n,∃h:n<l.length,(∀i (h:i<l.length),i<n→p i l[i])∧¬p n l[n])∨∀i (h:i<l.length),i<k→p i l[i]
 | 0=>.inr fun i h hi=>absurd hi (Nat.not_lt_zero _)
 | k+1=>by
  rcases zLB (p:=p) l k with h|h
  ·exact .inl h
  ·by_cases hk:k<l.length
   ·by_cases hp:p k l[k]
    ·refine .inr fun i hi hik=>?_
     by_cases he:i=k
     ·subst he;exact hp
     ·exact h i hi (by omega)
    ·exact .inl ⟨k,hk,h,hp⟩
   ·exact .inr fun i hi hik=>h i hi (by omega)
theorem zOf {p:Nat→zJk→Prop} (l:List zJk):∃n,n≤l.length∧(∀i (h:i<l.length),i<n→p i l[i])∧∀h:n<l.length,¬p n l[n]:=by
 rcases zLB (p:=p) l l.length with⟨n,h,h1,h2⟩|h
 ·exact⟨n,by omega,h1,fun _=>h2⟩
 ·exact⟨l.length,Nat.le_refl _,fun i hi _=>h i hi hi,fun h=>absurd h (Nat.lt_irrefl _)⟩
noncomputable def itI (i:Nat) (o:zJk):ItV:=(trO (zNA i o),o.outs)
noncomputable def xsI (l:List zJk):List ItV:=l.mapIdx itI
theorem zLg (l:List zJk):(xsI l).length=l.length:=by simp[xsI]
theorem zLi (l:List zJk) (i:Nat) (h:i<(xsI l).length):(xsI l)[i]=itI i (l[i]'(by rw[←zLg];exact h)):=by simp[xsI]
theorem zS6 {a b:Nat} (ha:a<4) (hb:b<4) (h:kdI (((a:Nat):Int) % 4)=kdI (((b:Nat):Int) % 4)):a=b:=by
 have h1:UInt8.ofNat (((a:Nat):Int) % 4).toNat=UInt8.ofNat (((b:Nat):Int) % 4).toNat:=by
  simpa[kdI]using h
 have h2:(((a:Nat):Int) % 4).toNat=a:=by omega
 have h3:(((b:Nat):Int) % 4).toNat=b:=by omega
 rw[h2,h3]at h1
 have h4:=congrArg UInt8.toNat h1
 rw[UInt8.toNat_ofNat',UInt8.toNat_ofNat']at h4
 omega
theorem zSW {l:List zJk} (hl:l.length≤4) (ho:∀o∈l,zLI o) (hf:∀i (h:i<l.length),zRE i l[i]):zPF (xsI l):=by
 refine⟨?_,fun x hx=>?_⟩
 ·rw[List.nodup_iff_pairwise_ne,List.pairwise_iff_getElem]
  intro i j hi hj hij
  rw[List.length_map]at hi hj
  rw[List.getElem_map,List.getElem_map,zLi _ _ hi,zLi _ _ hj]
  rw[zLg]at hi hj
  intro e
  have:=zS6 (a:=i) (b:=j) (by omega) (by omega) e
  omega
 ·obtain⟨i,hi,rfl⟩:=List.getElem_of_mem hx
  rw[zLi _ _ hi]
  rw[zLg]at hi
  obtain⟨h1,h2⟩:=hf i hi
  have h3:=zM7 h2
  exact zQu (o:=zNA i l[i]) (ho _ (List.getElem_mem hi)).1 h1 h3
def zP8 (o:zJk):List (List UInt8):=o.outs.map fun f=>f.data
def zJR (l:List zJk):List (List UInt8):=l.flatMap zP8
theorem zJX.mono {a b:List (List UInt8)} (h:zJX b) (hs:∀x∈a,x∈b):zJX a:=fun x hx y hy e=>h x (hs x hx) y (hs y hy) e
theorem zPW {l:List zJk} {n:Nat} (h:zJX (zJR l)):zJX ((xsI (l.take n)).flatMap fun x=>x.2.map fun f=>f.data):=by
 refine h.mono fun y hy=>?_
 obtain⟨x,hx,hy⟩:=List.mem_flatMap.1 hy
 obtain⟨i,hi,rfl⟩:=List.getElem_of_mem hx
 rw[zLi _ _ hi]at hy
 rw[zLg]at hi
 exact List.mem_flatMap.2 ⟨_,List.mem_of_mem_take (List.getElem_mem hi),hy⟩
theorem zRt {xs:List ItV} {c:Nat→Bool} {M:MV} (hx:zPF xs) (ho:OKD M.L) (h:Sur xs c M) (hc:∀i,i<xs.length→c i=true):M.L.length=xs.length:=by
 have hp:(zKJ (M.L.map Prod.fst)).Perm (xs.map fun x=>x.1.key):=by
  rw[List.perm_ext_iff_of_nodup (zLR ho.1) hx.nd]
  intro q
  rw[zNX,zLl ho]
  constructor
  ·intro hq
   obtain⟨i,hi,rfl⟩:=h.keys q hq
   exact List.mem_map.2 ⟨_,List.getElem_mem hi,rfl⟩
  ·intro hq
   obtain⟨x,hxm,rfl⟩:=List.mem_map.1 hq
   obtain⟨i,hi,rfl⟩:=List.getElem_of_mem hxm
   rw[(h.yes i hi (hc i hi)).1];simp
 have h1:=hp.length_eq
 have h2:=(zKE (M.L.map Prod.fst)).1.length_eq
 rw[List.length_map]at h1 h2
 omega
theorem zMB {xs:List ItV} {c:Nat→Bool} {M:MV} (h:Sur xs c M) (ha:zJX (xs.flatMap fun x=>x.2.map fun f=>f.data)) {x:ItV} (hx:x∈xs) (hb:∀f∈x.2,zJl (sha f.data) M.bl=true):zKM x.2 M.bl=true:=by
 unfold zKM
 rw[List.all_eq_true]
 intro f hf
 rw[hb f hf,zQ1 h ha hx hf (hb f hf)]
 simp
theorem zS5 (xs:List ItV):Sur xs (ltB 0) ⟨[],[]⟩:=⟨fun i hi hc=>by simp[ltB]at hc,fun i hi hc=>rfl,fun q hq=>absurd rfl hq,fun d p hp=>by cases hp⟩
theorem zR4 (xs:List ItV) (b:Int):S1 xs 0 0 false ⟨⟨zJs b zJe,false⟩,1,⟨[],[]⟩⟩ :=
 .go 0 _ [] ⟨[],[]⟩ rfl rfl (.inl ⟨rfl,rfl⟩) (fun r hr=>by cases hr) rfl ⟨fun _=>rfl,fun _=>rfl⟩ (zS5 xs)
end Go.Proofs.YtcioeonlclpacaaGreatDoor
end
