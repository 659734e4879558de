/- The trace of an outcome: the program. No condition beyond each theorem's own. -/
import Derived.Test.YtooipdkilgpojaaGreatDoorFW1ToP34T
import Derived.Test.YtooipdkilgpojaaGreatDoorS7ToBX5
import Derived.Test.YtooipdkilgpojaaGreatDoorL0
import Derived.Test.YtooipdkilgpojaaGreatDoorK11ToBS0
import Derived.Test.YtooipdkilgpojaaGreatDoorS2ToRW3
import Derived.Test.YtooipdkilgpojaaGreatDoorKTfToKS2
import Derived.Test.YtooipdkilgpojaaGreatDoorFT0ToFW0
import Derived.Test.YtooipdkilgpojaaGreatDoorAL0ToBR1
import Derived.Test.YtooipdkilgpojaaGreatDoorBPD
set_option linter.unusedSimpArgs false
set_option linter.unusedVariables false
set_option linter.unusedSectionVars false
section
set_option maxRecDepth 100000
namespace Go.Proofs.YtooipdkilgpojaaGreatDoor
open Go Go.Ab
open Classical
variable [Sel]
@[simp] theorem znT:qZ Tryz.prog 23=true:=by kernel_rfl
@[simp] theorem zru:z8 Tryz.prog (.func 23)=false:=q9 znT
def zEl (f:U1):Made:=⟨f.path,sha f.data⟩
def mdA (f:U1):AV:=.agg [.s f.path,KW (sha f.data)]
def zD3 (key:Dig) (o:zcy):zaP:=⟨key,o.reads,o.outs.map zEl⟩
def tr0:zaP:=⟨zc4,[],[]⟩
noncomputable def ofT (key:Dig) (o:zcy):zaP:=if o.kind≠1 then tr0 else if zCW (zD3 key o)=0 then zD3 key o else tr0
noncomputable def ofE (key:Dig) (o:zcy):Int:=if o.kind≠1 then 19 else zCW (zD3 key o)
noncomputable def zDH (key:Dig) (o:zcy):TV:=.tup [(qD Tryz.prog 72,qK (ofT key o)),(.int .i64,.i .i64 (ofE key o))]
def zDX (o:zcy):Prop:=o.reads.length≤1000∧o.outs.length≤1000000∧(∀r∈o.reads,r.path.length≤1000000)∧∀f∈o.outs,f.path.length≤1000000∧f.data.length≤1000000
theorem zEb {key:Dig} {o:zcy} (h:o.kind=1) (hc:zCW (zD3 key o)=0):zDH key o=.tup [(qD Tryz.prog 72,.agg [KW key,.sl .no (AV.ers (o.reads.map qI)),.sl .no (AV.ers (o.outs.map (qN ∘ zEl)))]),(.int .i64,.i .i64 0)]:=by
 have h1:ofT key o=zD3 key o:=by simp[ofT,h,hc]
 have h2:ofE key o=0:=by simp[ofE,h,hc]
 simp only[zDH,h1,h2]
 simp[zD3,qK,qF,qJ,AV.ers_eq,Function.comp_def]
theorem zEd {key:Dig} {o:zcy} (h:o.kind=1) (hc:¬zCW (zD3 key o)=0):zDH key o=.tup [(qD Tryz.prog 72,.agg [.agg (List.replicate 32 (.i .u8 0)),.sl .no [],.sl .no []]),(.int .i64,.i .i64 (zCW (zD3 key o)))]:=by
 have h1:ofT key o=tr0:=by simp[ofT,h,hc]
 have h2:ofE key o=zCW (zD3 key o):=by simp[ofE,h]
 simp only[zDH,h1,h2]
 simp only[tr0,qK,qF,qJ,zD2,List.map_nil]
abbrev zEy:Cfg:=⟨fun _=>false,fun n=>n==37⟩
theorem zE8 (l:List U1) (k:Nat) (h:k<l.length):(l.map jZ)[k]?=some (jZ l[k]):=KB jZ l k h
set_option maxHeartbeats 4000000 in
theorem zEx (key:Dig) (o:zcy) (ho:zDX o) :
  PC Tryz.prog 23 [.av (qD Tryz.prog 69) (KW key),.av (qD Tryz.prog 41) (zI o)] (zDH key o):=by
 obtain⟨hr1,ho1,hr2,ho2⟩:=ho
 obtain⟨kind,why,outs,reads⟩:=o
 simp only at hr1 ho1 hr2 ho2
 refine PC.of <| q7.of_vc laid mixed Tryz.func23 rfl zEy (by kernel_rfl) (by simp[Tryz.ntmps23]) fun imm0 w0=>?_
 by_cases hk:kind=1
 rotate_left
 ·(simp (maxSteps:=2000000) (disch:=first|omega|assumption) [zz,zI,hk,Tryz.f23,zDH,ofT,ofE,tr0,qK,qF,qJ,zD2])
 subst hk
 (simp (maxSteps:=2000000) (disch:=first|omega|assumption) [zz,zI])
 (repeat with_reducible refine om ?_)
 refine jC (zE0 reads hr1) rfl rfl (by simp) (by simp[qS,TV.er]) ?_
 (simp (maxSteps:=2000000) (disch:=first|omega|assumption) [zz,qF,zU])
 (repeat with_reducible refine om ?_)
 refine AT.loop' (α:=Nat) (fun k=>St.of [(4,.loc 4 []),(5,.cst (.int .i64 0)),(6,.loc 6 []),(20,.av (.slice 63) (.sl .no (outs.map jZ))),(21,.av (.int .i64) (.i .i64 outs.length)),(22,.av (.int .i64) (.i .i64 k))] [(4,(qD Tryz.prog 72,.agg [KW zc4,.sl .full [],.sl .full []])),(6,(qD Tryz.prog 72,.agg [KW key,.sl .no (reads.map qI),.sl (tkO 36 k) ((outs.map mdA).take k)]))] (fun j=>if j=36 then k else 0) [])
  (fun k=>k≤outs.length) (fun k=>outs.length-k) 0 ?_ ?_ ?_
 ·refine Le.of ?_ ?_ ?_ ?_ ?_<;>simp[qU,qG,qO,qH,qP,qK,qF,qI,qJ,qN,zD2,tkO]<;>try omega
 ·simp
 rintro k hk KL hN hE
 refine qM (cf:=zEy) laid mixed _ _ _ (by kernel_rfl) ?_
 by_cases hlt:k<outs.length
 ·have hlt':(k:Int)<outs.length:=by omega
  have hg:=zE8 outs k hlt
  have hd:=ho2 outs[k] (List.getElem_mem hlt)
  have hst:(outs.map mdA).take (k+1)=(outs.map mdA).take k++[mdA outs[k]]:=by
   rw[←List.map_take,List.take_succ_eq_append_getElem hlt,List.map_append,List.map_take];rfl
  have htl:((outs.map mdA).take k).length=k:=by rw[List.length_take,List.length_map];omega
  obtain⟨f,hf⟩:∃f,f=outs[k]:=⟨_,rfl⟩
  rw[←hf]at hg hd hst
  clear hf
  cases k with
  | zero =>
   have hlt':(0:Int)<outs.length:=by omega
   (simp (maxSteps:=2000000) (disch:=first|omega|assumption) [zz,hlt',hlt,hg,jZ,tkO])
   (repeat with_reducible refine om ?_)
   refine jC (znJ f.data (by omega)) rfl rfl (by simp) (by simp[qS,TV.er,AV.er,AV.ers,zfI]) ?_
   (simp (maxSteps:=2000000) (disch:=first|omega|assumption) [zz,wB])
   (repeat with_reducible refine om ?_)
   refine hN _ 1 ?_ (by omega) (by omega)
   refine Le.of ?_ ?_ ?_ ?_ ?_<;>simp[qU,qG,qO,qH,qP,qK,qF,qI,qJ,qN,tkO,hst,mdA]<;>try omega
  | succ k =>
   have hlt':(k:Int)+1<outs.length:=by omega
   have hge:(0:Int)≤(k:Int)+1:=by omega
   (simp (maxSteps:=2000000) (disch:=first|omega|assumption) [zz,hlt',hlt,hg,jZ,tkO])
   (repeat with_reducible refine om ?_)
   refine jC (znJ f.data (by omega)) rfl rfl (by simp) (by simp[qS,TV.er,AV.er,AV.ers,zfI]) ?_
   (simp (maxSteps:=2000000) (disch:=first|omega|assumption) [zz,wB,htl])
   (repeat with_reducible refine om ?_)
   refine hN _ (k+2) ?_ (by omega) (by omega)
   refine Le.of ?_ ?_ ?_ ?_ ?_<;>simp[qU,qG,qO,qH,qP,qK,qF,qI,qJ,qN,tkO,hst,mdA]<;>try omega
   all_goals (intro j;by_cases hj:j=36<;>simp[hj])
 ·have hkn:k=outs.length:=by omega
  have hlt':¬(k:Int)<outs.length:=by omega
  subst hkn
  (simp (maxSteps:=2000000) (disch:=first|omega|assumption) [zz,hlt'])
  refine hE _ _ (by simp) ?_
  clear hN hE
  have hmd:outs.map mdA=(outs.map zEl).map qN:=by rw[List.map_map];rfl
  have htake:(outs.map mdA).take outs.length=(outs.map zEl).map qN:=by rw[List.take_of_length_le (by simp),hmd]
  have htp:TrP (zD3 key ⟨1,why,outs,reads⟩):=by
   refine⟨⟨by simp only[zD3];omega,fun r hr=>Nat.le_trans (hr2 r hr) (by decide)⟩,by simp only[zD3,List.length_map];omega,fun r hr=>?_⟩
   obtain⟨f,hf,rfl⟩:=List.mem_map.1 hr
   exact Nat.le_trans (ho2 f hf).1 (by decide)
  (simp (maxSteps:=2000000) (disch:=first|omega|assumption) [zz,htake])
  refine qL (zE7 _ htp) rfl rfl (by simp) (by simp[qS,TV.er,qK,zD3,AV.er,AV.ers,AV.ers_eq,qF,qJ,List.map_map,Function.comp_def]) ?_
  by_cases hc:zCW (zD3 key ⟨1,why,outs,reads⟩)=0
  ·have h1:=zEb (o:=⟨1,why,outs,reads⟩) rfl hc
   (simp (maxSteps:=2000000) (disch:=first|omega|assumption) [zz,hc,Tryz.f23,h1])
  ·have h1:=zEd (o:=⟨1,why,outs,reads⟩) rfl hc
   (simp (maxSteps:=2000000) (disch:=first|omega|assumption) [zz,hc,Tryz.f23,h1])
@[simp] theorem znz:qZ Tryz.prog 61=true:=by kernel_rfl
@[simp] theorem zsh:z8 Tryz.prog (.func 61)=false:=q9 znz
@[simp] theorem zo2:qZ Tryz.prog 62=true:=by kernel_rfl
@[simp] theorem zs3:z8 Tryz.prog (.func 62)=false:=q9 zo2
@[simp] theorem znY:qZ Tryz.prog 25=true:=by kernel_rfl
@[simp] theorem zsp:z8 Tryz.prog (.func 25)=false:=q9 znY
theorem zDU (k r:XF) (b:Nat):q7 Tryz.prog 62 [.av (qD Tryz.prog 79) (qI k),.av .ptr (.ptr b (qD Tryz.prog 79) [])] [(b,.var (qD Tryz.prog 79) (qI r))]
  fun r' H'=>r'=.av .bool (.b (decide (k.path=r.path)))∧H'=[(b,.var (qD Tryz.prog 79) (qI r))]:=by
 refine q7.of_vc laid mixed Tryz.func62 rfl cf0 (by kernel_rfl) (by simp[Tryz.ntmps62]) fun imm0 w0=>?_
 (simp (maxSteps:=2000000) (disch:=first|omega|assumption) [zz,qI,Tryz.f62])
theorem zDK (known:List XF) (hk:known.length≤9223372036854775807) (r:XF) (b:Nat) :
  q7 Tryz.prog 61 [.av (.slice 79) (qF known),.av .func (.fn 62 [.ptr b (qD Tryz.prog 79) []])] [(b,.var (qD Tryz.prog 79) (qI r))]
   fun r' H'=>r'=.av (.int .i64) (.i .i64 (J7 (fun x=>decide (x.path=r.path)) known))∧H'=[(b,.var (qD Tryz.prog 79) (qI r))]:=by
 refine q7.of_vc laid mixed Tryz.func61 rfl cf0 (by kernel_rfl) (by simp[Tryz.ntmps61]) fun imm0 w0=>?_
 (simp (maxSteps:=2000000) (disch:=first|omega|assumption) [zz,qF])
 refine AT.loop' (α:=Nat) (fun k=>St.of [(0,.av (.slice 79) (.sl .no (known.map qI))),(1,.av .func (.fn 62 [.ptr b (qD Tryz.prog 79) []])),(7,.av (.int .i64) (.i .i64 known.length)),(8,.av (.int .i64) (.i .i64 k))] [] (fun _=>0) [(b,.var (qD Tryz.prog 79) (qI r))])
  (fun k=>k≤known.length∧∀x∈known.take k,decide (x.path=r.path)=false) (fun k=>known.length-k) 0 ?_ ?_ ?_
 ·refine Le.of ?_ ?_ ?_ ?_ ?_<;>simp[qU,qG,qO,qH,qP,qK,qF,qI,qJ,qN,zX]<;>try omega
 ·simp
 rintro k ⟨hk',hpk⟩ KL hN hE
 refine qM (cf:=cf0) laid mixed _ _ _ (by kernel_rfl) ?_
 by_cases hlt:k<known.length
 ·have hlt':(k:Int)<known.length:=by omega
  (simp (maxSteps:=2000000) (disch:=first|omega|assumption) [zz,hlt'])
  refine jP (R:=fun r' H'=>r'=.av .bool (.b (decide (known[k].path=r.path)))∧H'=[(b,.var (qD Tryz.prog 79) (qI r))]) rfl (by simp[qQ]) (by simp) ?_ ?_
  ·have:=zDU known[k] r b
   simpa[TV.er,AV.er,qF,List.getElem?_eq_getElem hlt,q8.er_cons,q8.er_nil,HObj.er]using this
  rintro r' H' ⟨rfl,rfl⟩
  by_cases hp:known[k].path=r.path
  ·(simp (maxSteps:=2000000) (disch:=first|omega|assumption) [zz,hp])
   refine hE _ _ (by simp) ?_
   (simp (maxSteps:=2000000) (disch:=first|omega|assumption) [zz,Tryz.f61,uL hlt hpk (by simpa using hp)])
  ·(simp (maxSteps:=2000000) (disch:=first|omega|assumption) [zz,hp])
   refine hN _ (k+1) ?_ ⟨by omega,by rw[Z2 hlt];exact⟨hpk,by simpa using hp⟩⟩ (by omega)
   refine Le.of ?_ ?_ ?_ ?_ ?_<;>simp[qU,qG,qO,qH,qP,qK,qF,qI,qJ,qN,zX]<;>try omega
 ·have hlt':¬(k:Int)<known.length:=by omega
  (simp (maxSteps:=2000000) (disch:=first|omega|assumption) [zz,hlt'])
  refine hE _ _ (by simp) ?_
  rw[List.take_of_length_le (by omega)]at hpk
  (simp (maxSteps:=2000000) (disch:=first|omega|assumption) [zz,Tryz.f61,x9 hpk])
def zCU (known:List XF):List XF→Bool × List UInt8
 | []=>(true,[])
 | r::rs=>match known.find? (fun x=>decide (x.path=r.path))with
  | none=>(false,r.path)
  | some x=>if x=r then zCU known rs else(false,[])
def zD6 (p:Bool × List UInt8):TV:=.tup [(.bool,.b p.1),(.str,.s p.2)]
abbrev zDM:Cfg:=⟨fun k=>k==7,fun _=>false⟩
set_option maxHeartbeats 4000000 in
theorem zE9 (t:zaP) (known:List XF) (hk:known.length≤9223372036854775807) (ht:t.reads.length≤9223372036854775807) :
  PC Tryz.prog 25 [.av (qD Tryz.prog 72) (qK t),.av (.slice 79) (qF known)] (zD6 (zCU known t.reads)):=by
 refine PC.of <| q7.of_vc laid mixed Tryz.func25 rfl zDM (by kernel_rfl) (by simp[Tryz.ntmps25]) fun imm0 w0=>?_
 (simp (maxSteps:=2000000) (disch:=first|omega|assumption) [zz,qK,qF])
 refine AT.loop' (α:=Nat) (fun k=>St.of [(1,.av (.slice 79) (qF known)),(10,.av (.slice 79) (qF t.reads)),(11,.av (.int .i64) (.i .i64 t.reads.length)),(12,.av (.int .i64) (.i .i64 k))] [] (fun _=>0) [])
  (fun k=>k≤t.reads.length∧zCU known t.reads=zCU known (t.reads.drop k)) (fun k=>t.reads.length-k) 0 ?_ ?_ ?_
 ·refine Le.of ?_ ?_ ?_ ?_ ?_<;>simp[qU,qG,qO,qH,qP,qK,qF,qI,qJ,qN,qF]<;>try omega
 ·simp
 rintro k ⟨hk',hpk⟩ KL hN hE
 refine qM (cf:=zDM) laid mixed _ _ _ (by kernel_rfl) ?_
 by_cases hlt:k<t.reads.length
 ·have hlt':(k:Int)<t.reads.length:=by omega
  have hdr:t.reads.drop k=t.reads[k]::t.reads.drop (k+1):=(List.getElem_cons_drop hlt).symm
  obtain⟨r,hr⟩:∃r,r=t.reads[k]:=⟨_,rfl⟩
  have hg:(t.reads.map qI)[k]?=some (qI r):=by rw[List.getElem?_map,List.getElem?_eq_getElem hlt,hr];rfl
  rw[←hr]at hdr
  (simp (maxSteps:=2000000) (disch:=first|omega|assumption) [zz,hlt',qF,hg,←hr])
  intro b
  have hcall:=zDK known hk r b
  simp only[zEM]at hcall
  refine jP (R:=fun r' H'=>r'=.av (.int .i64) (.i .i64 (J7 (fun x=>decide (x.path=r.path)) known))∧H'=[(b,.var (.struct [9,4,69]) (qI r))]) rfl (by simp[qQ]) (by simp) ?_ ?_
  ·simpa[TV.er,AV.er,AV.ers,AV.ers_eq,qF,q8.er_cons,q8.er_nil,HObj.er,Function.comp_def]using hcall
  rintro r' H' ⟨rfl,rfl⟩
  rcases ze8 (fun x:XF=>decide (x.path=r.path)) known with⟨hi,hf⟩|⟨i,hil,hi,hf⟩
  ·(simp (maxSteps:=2000000) (disch:=first|omega|assumption) [zz,hi,qI])
   refine hE _ _ (by simp) ?_
   have:zCU known t.reads=(false,r.path):=by rw[hpk,hdr];simp only[zCU,hf]
   (simp (maxSteps:=2000000) (disch:=first|omega|assumption) [zz,Tryz.f25,zD6,this])
  ·have hi0:¬(i:Int)<0:=by omega
   have hgi:(known.map qI)[i]?=some (qI known[i]):=by rw[List.getElem?_map,List.getElem?_eq_getElem hil];rfl
   have hst:zCU known t.reads=if known[i]=r then zCU known (t.reads.drop (k+1)) else(false,[]):=by rw[hpk,hdr];simp only[zCU,hf]
   have hil':(i:Int)<known.length:=by omega
   by_cases hkr:known[i]=r
   ·rw[if_pos hkr]at hst
    (simp (maxSteps:=2000000) (disch:=first|omega|assumption) [zz,hi,hi0,hgi,hil',hkr,GV])
    (repeat with_reducible refine om ?_)
    refine hN _ (k+1) ?_ ⟨by omega,hst⟩ (by omega)
    refine Le.of ?_ ?_ ?_ ?_ ?_<;>simp[qU,qG,qO,qH,qP,qK,qF,qI,qJ,qN,qF]<;>try omega
   ·rw[if_neg hkr]at hst
    (simp (maxSteps:=2000000) (disch:=first|omega|assumption) [zz,hi,hi0,hgi,hil',hkr,GV])
    (repeat with_reducible refine om ?_)
    refine hE _ _ (by simp) ?_
    (simp (maxSteps:=2000000) (disch:=first|omega|assumption) [zz,Tryz.f25,zD6,hst])
 ·have hlt':¬(k:Int)<t.reads.length:=by omega
  (simp (maxSteps:=2000000) (disch:=first|omega|assumption) [zz,hlt'])
  refine hE _ _ (by simp) ?_
  rw[List.drop_of_length_le (by omega)]at hpk
  (simp (maxSteps:=2000000) (disch:=first|omega|assumption) [zz,Tryz.f25,zD6,hpk,zCU])
theorem zDi:∀ {l:List XF} {met:List (List UInt8)},zCY met l=0→(∀r∈l,r.path∉met)∧(l.map (·.path)).Nodup
 | [],_,_=>by simp
 | x::l,met,h=>by
  unfold zCY at h
  split at h
  ·cases h
  ·split at h
   ·cases h
   ·split at h
    ·cases h
    ·rename_i h1 h2 h3
     obtain⟨i1,i2⟩:=zDi h
     refine⟨fun r hr=>?_,?_⟩
     ·rcases List.mem_cons.1 hr with rfl|hr
      ·exact h2
      ·exact fun hm=>i1 r hr (List.mem_append_left _ hm)
     ·rw[List.map_cons,List.nodup_cons]
      refine⟨fun hm=>?_,i2⟩
      obtain⟨r,hr,e⟩:=List.mem_map.1 hm
      exact i1 r hr (by rw[e];simp)
theorem zDg:∀ {l:List XF},(l.map (·.path)).Nodup→∀r∈l,l.find? (fun x=>decide (x.path=r.path))=some r
 | [],_,r,hr=>by cases hr
 | x::l,hn,r,hr=>by
  rw[List.map_cons,List.nodup_cons]at hn
  rw[List.find?_cons]
  rcases List.mem_cons.1 hr with rfl|hr
  ·simp
  ·have:¬x.path=r.path:=fun e=>hn.1 (by rw[e];exact List.mem_map.2 ⟨r,hr,rfl⟩)
   simp only[this,decide_false]
   exact zDg hn.2 r hr
theorem zD7 (known b:List XF):∀a:List XF,(∀r∈a,known.find? (fun x=>decide (x.path=r.path))=some r)→zCU known (a++b)=zCU known b
 | [],_=>rfl
 | r::a,h=>by
  have h1:=h r (by simp)
  have h2:=zD7 known b a fun x hx=>h x (by simp[hx])
  simp only[List.cons_append,zCU,h1,if_true]
  exact h2
theorem zDI {l:List XF} (h:(l.map (·.path)).Nodup) (i:Nat):((l.take i).map (·.path)).Nodup:=by
 rw[List.map_take]
 exact h.sublist (List.take_sublist _ _)
theorem zE1 {l:List XF} (h:(l.map (·.path)).Nodup) {i:Nat} (hi:i<l.length):zCU (l.take i) l=(false,l[i].path):=by
 have e:l=l.take i++(l[i]::l.drop (i+1)):=by rw[List.getElem_cons_drop,List.take_append_drop]
 have h1:zCU (l.take i) (l.take i++(l[i]::l.drop (i+1)))=zCU (l.take i) (l[i]::l.drop (i+1)):=zD7 _ _ _ (zDg (zDI h i))
 rw[←e]at h1
 rw[h1]
 have hn:(l.take i).find? (fun x=>decide (x.path=l[i].path))=none:=by
  rw[List.find?_eq_none]
  intro x hx
  simp only[decide_eq_true_eq]
  intro e2
  obtain⟨j,hj,e3⟩:=List.mem_take_iff_getElem.1 hx
  have hj':j<i∧j<l.length:=by omega
  have:=List.pairwise_iff_getElem.1 h j i (by simpa using hj'.2) (by simpa using hi) hj'.1
  simp only[List.getElem_map]at this
  exact this (by rw[e3,e2])
 simp only[zCU,hn]
theorem zDS {l:List XF} (h:(l.map (·.path)).Nodup):zCU l l=(true,[]):=by
 have:=zD7 l [] l (zDg h)
 rw[List.append_nil]at this
 rw[this];rfl
end Go.Proofs.YtooipdkilgpojaaGreatDoor
end
section
set_option maxRecDepth 100000
namespace Go.Proofs.YtooipdkilgpojaaGreatDoor
open Go Go.Ab
open Classical
variable [Sel] [SelPow] [SelMax]
theorem zwq {fs:List U1} {p:Txt} {k:Nat} (hk:k<fs.length) (hno:∀i (h:i<fs.length),i<k→fs[i].path≠p) (h:fs[k].path=p):z1 fs p=⟨p,true,fs[k].data⟩:=by
 have:fs.find? (fun f=>decide (f.path=p))=some fs[k]:=by
  rw[List.find?_eq_some_iff_getElem]
  refine⟨by simpa using h,k,hk,rfl,fun i hi=>?_⟩
  simpa using hno i (by omega) hi
 unfold z1;rw[this]
theorem zwe {fs:List U1} {p:Txt} (hno:∀i (h:i<fs.length),fs[i].path≠p):z1 fs p=⟨p,false,[]⟩:=by
 have:fs.find? (fun f=>decide (f.path=p))=none:=by
  rw[List.find?_eq_none]
  intro x hx
  obtain⟨i,hi,rfl⟩:=List.getElem_of_mem hx
  simpa using hno i hi
 unfold z1;rw[this]
theorem zwG (fs:List U1) (hn:fs.length≤1000000000) (p:Txt):PC Tryz.prog 64 [.av (.slice 63) (zU fs),.av .str (.s p)] (.tup [(.str,.s (z1 fs p).data),(.bool,.b (z1 fs p).is)]):=by
 refine PC.of <| q7.of_vc laid mixed Tryz.func64 rfl cf0 (by kernel_rfl) (by simp[Tryz.ntmps64]) fun imm0 w0=>?_
 (simp (maxSteps:=2000000) (disch:=first|omega|assumption) [zz,-List.reduceReplicate,zU])
 refine AT.loop' (α:=Nat) (fun k=>St.of [(0,.av (.slice 63) (zU fs)),(1,.av .str (.s p)),(8,.av (.int .i64) (.i .i64 fs.length)),(9,.av (.int .i64) (.i .i64 k))] [] (fun _=>0) [])
  (fun k=>k≤fs.length∧∀i (h:i<fs.length),i<k→fs[i].path≠p) (fun k=>fs.length-k) 0 ?_ ?_ ?_
 ·refine Le.of ?_ ?_ ?_ ?_ ?_<;>simp[qU,qG,zU]<;>try omega
 ·exact⟨by omega,fun i h hi=>by omega⟩
 rintro k ⟨hk,hno⟩ KL hN hE
 refine qM (cf:=cf0) laid mixed _ _ _ (by kernel_rfl) ?_
 by_cases hlt:k<fs.length
 ·have hlt':(k:Int)<fs.length:=by omega
  have hg:=KB jZ fs k hlt
  by_cases hc:fs[k].path=p
  ·have ht:=zwq hlt hno hc
   (simp (maxSteps:=2000000) (disch:=first|omega|assumption) [zz,-List.reduceReplicate,hlt',hg,jZ,zU,hc])
   refine hE _ _ (by simp) ?_
   (simp (maxSteps:=2000000) (disch:=first|omega|assumption) [zz,-List.reduceReplicate,ht,Tryz.f64])
  ·(simp (maxSteps:=2000000) (disch:=first|omega|assumption) [zz,-List.reduceReplicate,hlt',hg,jZ,zU,hc])
   refine hN _ (k+1) ?_ ⟨by omega,fun i h hi=>?_⟩ (by omega)
   ·refine Le.of ?_ ?_ ?_ ?_ ?_<;>simp[qU,qG,zU]<;>try omega
   ·rcases Nat.lt_or_ge i k with h1|h1
    ·exact hno i h h1
    ·have:i=k:=by omega
     subst this;exact hc
 ·have hlt':¬(k:Int)<fs.length:=by omega
  have ht:=zwe (fs:=fs) (p:=p) fun i h=>hno i h (by omega)
  (simp (maxSteps:=2000000) (disch:=first|omega|assumption) [zz,-List.reduceReplicate,hlt',zU])
  refine hE _ _ (by simp) ?_
  (simp (maxSteps:=2000000) (disch:=first|omega|assumption) [zz,-List.reduceReplicate,ht,Tryz.f64])
theorem zvP (fs:List U1) (hn:fs.length≤1000000000) (p:Txt):PC Tryz.prog 27 [.av (.slice 63) (zU fs),.av .str (.s p)] (.av KnT (zH (z1 fs p))):=by
 have hef:=zdW fs
 have hp:=zvy fs p
 refine PC.of <| q7.of_vc laid mixed Tryz.func27 rfl cf0 (by kernel_rfl) (by simp[Tryz.ntmps27]) fun imm0 w0=>?_
 (simp (maxSteps:=2000000) (disch:=first|omega|assumption) [zz,-List.reduceReplicate])
 refine qL (zwG fs hn p) rfl rfl (by simp) (by simp[qS,TV.er,AV.er,hef]) ?_
 (simp (maxSteps:=2000000) (disch:=first|omega|assumption) [zz,-List.reduceReplicate,zH,hp,Tryz.f27])
@[simp] theorem zns:qZ Tryz.prog 26=true:=by kernel_rfl
@[simp] theorem zsf:z8 Tryz.prog (.func 26)=false:=q9 zns
theorem zDG:KW zc4=.agg (List.replicate 32 (.i .u8 0)):=by simp[KW,zc4]
theorem zDP (k:KnV) (hk:k.data.length≤1000000000):PC Tryz.prog 26 [.av KnT (zH k)] (.av (qD Tryz.prog 79) (qI (J9 k))):=by
 obtain⟨p,i,d⟩:=k
 simp only at hk
 refine PC.of <| q7.of_vc laid mixed Tryz.func26 rfl cf0 (by kernel_rfl) (by simp[Tryz.ntmps26]) fun imm0 w0=>?_
 cases i with
 | false=>(simp (maxSteps:=2000000) (disch:=first|omega|assumption) [zz,-List.reduceReplicate,zH,Tryz.f26,J9,qI,zDG,AV.ers_eq,AV.er])
 | true =>
  (simp (maxSteps:=2000000) (disch:=first|omega|assumption) [zz,-List.reduceReplicate,zH])
  (repeat with_reducible refine om ?_)
  refine jC (zEi d (by omega)) rfl rfl (by simp) (by simp[qS,TV.er,AV.er]) ?_
  (simp (maxSteps:=2000000) (disch:=first|omega|assumption) [zz,-List.reduceReplicate,Tryz.f26,J9,qI])
  show rdJ _ _ _ _ _=true
  kernel_rfl
@[simp] theorem zpf:qZ Tryz.prog 5=true:=by kernel_rfl
@[simp] theorem zsz:z8 Tryz.prog (.func 5)=false:=q9 zpf
@[simp] theorem zoJ:qZ Tryz.prog 24=true:=by kernel_rfl
@[simp] theorem zrO:z8 Tryz.prog (.func 24)=false:=q9 zoJ
theorem zEg {a:xW} (ha:vA a≤2000):(zz5 a).length≤100000000:=by
 obtain⟨l1,l2,l3,l4⟩:=zzC ha
 have:=zyW (N:=10000000) (by decide) [a.tool,WI (zyK a.env),WI (zyE a.ins),WI (zyE a.asks),WI (zyE a.outs)] fun x hx=>by
  have:=(zbN ha).bt
  simp only[List.mem_cons,List.not_mem_nil,or_false]at hx
  rcases hx with rfl|rfl|rfl|rfl|rfl<;>omega
 simp only[List.length_cons,List.length_nil]at this
 unfold zz5
 omega
theorem zEs {a:xW} {fs:List U1} (h:(zuI a fs).2≠0):(zuI a fs).1=zvh:=by
 unfold zuI at h ⊢
 cases hc:j7 a.tool with
 | error en=>rfl
 | ok cs =>
  rw[hc]at h
  simp only at h ⊢
  cases hl:zuK fs with
  | true=>rfl
  | false=>rw[hl]at h;simp at h
theorem zDZ (a:xW) (ha:vA a≤2000):PC Tryz.prog 24 [.av UI (kT a)] (.av (qD Tryz.prog 69) (KW (sha (zz5 a)))):=by
 have hae:=YB a
 have ht:=zzq a ha
 have hl:=zEg ha
 obtain⟨A,hA⟩:∃A,A=kT a:=⟨_,rfl⟩
 rw[←hA]at hae ht ⊢
 refine PC.of <| q7.of_vc laid mixed Tryz.func24 rfl cf0 (by kernel_rfl) (by simp[Tryz.ntmps24]) fun imm0 w0=>?_
 (simp (maxSteps:=2000000) (disch:=first|omega|assumption) [zz,-List.reduceReplicate])
 refine qL ht rfl rfl (by simp) (by simp[qS,TV.er,hae]) ?_
 (simp (maxSteps:=2000000) (disch:=first|omega|assumption) [zz,-List.reduceReplicate])
 refine qL (znJ (zz5 a) (by omega)) rfl rfl (by simp) (by simp[qS,TV.er,AV.er,AV.ers,zfI]) ?_
 (simp (maxSteps:=2000000) (disch:=first|omega|assumption) [zz,-List.reduceReplicate,Tryz.f24])
theorem zE6 {K:Dig} {o:zcy} (h:ofE K o=0):o.kind=1∧zCW (zD3 K o)=0:=by
 unfold ofE at h
 by_cases hk:o.kind=1
 ·rw[if_neg (by simp[hk])]at h;exact⟨hk,h⟩
 ·rw[if_pos hk]at h;cases h
theorem zDz {t:zaP} (h:zCW t=0):zCY [] t.reads=0:=by
 unfold zCW at h
 split at h
 ·cases h
 split at h
 ·exact h
 ·rename_i h1;simpa using h1
abbrev zEw:Cfg:=⟨fun n=>n==9||n==78,fun _=>false⟩
set_option maxHeartbeats 32000000 in
theorem zDo (a:xW) (fs:List U1) (ha:vA a≤1000000000) (hx:flW fs≤1000000000) :
  PC Tryz.prog 5 [.av UI (kT a),.av (.slice 63) (zU fs)] (.av .bool (.b true)):=by
 have hex:=zdW fs
 have hae:=YB a
 have hga:=d8 a ha
 have hgx:=zvj fs hx
 have hfx:=zvO
 have hko:=zDZ a
 have hala:=fun hab=>zvG a hab
 obtain⟨A,hA⟩:∃A,A=kT a:=⟨_,rfl⟩
 rw[←hA]at hga hae hala hko ⊢
 refine PC.of <| q7.of_vc laid mixed Tryz.func5 rfl zEw (by kernel_rfl) (by simp[Tryz.ntmps5]) fun imm0 w0=>?_
 (simp (maxSteps:=2000000) (disch:=first|omega|assumption) [zz,-List.reduceReplicate])
 refine qL hga rfl rfl (by simp) (by simp[qS,TV.er,hae]) ?_
 by_cases g1:2000<vA a
 ·(simp (maxSteps:=2000000) (disch:=first|omega|assumption) [zz,-List.reduceReplicate,g1])
  refine qL hfx rfl rfl (by simp) (by simp[qS,TV.er,AV.er]) ?_
  (simp (maxSteps:=2000000) (disch:=first|omega|assumption) [zz,-List.reduceReplicate,Tryz.f5])
 (simp (maxSteps:=2000000) (disch:=first|omega|assumption) [zz,-List.reduceReplicate,g1])
 refine qL hgx rfl rfl (by simp) (by simp[qS,TV.er,hex]) ?_
 by_cases g3:3000<flW fs
 ·(simp (maxSteps:=2000000) (disch:=first|omega|assumption) [zz,-List.reduceReplicate,g3])
  refine qL hfx rfl rfl (by simp) (by simp[qS,TV.er,AV.er]) ?_
  (simp (maxSteps:=2000000) (disch:=first|omega|assumption) [zz,-List.reduceReplicate,Tryz.f5])
 (simp (maxSteps:=2000000) (disch:=first|omega|assumption) [zz,-List.reduceReplicate,g3])
 have hab:=zbN (a:=a) (by omega)
 obtain⟨hl,hn⟩:=zws (l:=fs) (by omega)
 have hax:=hala hab fs (by omega)
 have hko:=hko (by omega)
 have hat:=zDY (a:=a) (fs:=fs) hab (fun p hp=>by have:=zll hp;unfold vA at g1;omega)
 have hao:zDX (zuI a fs).1:=by
  by_cases h:(zuI a fs).2=0
  ·obtain⟨_,h2,h3,h4,h5⟩:=hat h
   exact⟨by omega,h4,fun r hr=>Nat.le_trans (h3 r hr) (by decide),fun f hf=>⟨(h5 f hf).1,Nat.le_trans (h5 f hf).2 (by decide)⟩⟩
  ·rw[zEs h];simp[zDX,zvh]
 obtain⟨X,hX⟩:∃X,X=zuI a fs:=⟨_,rfl⟩
 rw[←hX]at hax hat hao
 obtain⟨o,e⟩:=X
 simp only at hax hat hao
 obtain⟨K,hK⟩:∃K,K=sha (zz5 a):=⟨_,rfl⟩
 rw[←hK]at hko
 have hof:=zEx K o hao
 have hoe:=KO o
 obtain⟨T,hT⟩:∃T,T=ofT K o:=⟨_,rfl⟩
 obtain⟨f,hf⟩:∃f,f=ofE K o:=⟨_,rfl⟩
 have htv:zDH K o=.tup [(qD Tryz.prog 72,qK T),(.int .i64,.i .i64 f)]:=by rw[hT,hf];rfl
 rw[htv]at hof
 refine qL hax rfl rfl (by simp) (by simp[qS,TV.er,AV.er,hae,hex]) ?_
 (simp (maxSteps:=2000000) (disch:=first|omega|assumption) [zz,-List.reduceReplicate])
 (repeat with_reducible refine om ?_)
 refine jC hko rfl rfl (by simp) (by simp[qS,coC,TV.er,AV.er,hae]) ?_
 (simp (maxSteps:=2000000) (disch:=first|omega|assumption) [zz,-List.reduceReplicate])
 (repeat with_reducible refine om ?_)
 refine jC hof rfl rfl (by simp) (by simp[qS,coC,TV.er,AV.er,hoe]) ?_
 by_cases he:e=0
 rotate_left
 ·(simp (maxSteps:=2000000) (disch:=first|omega|assumption) [zz,-List.reduceReplicate,he])
  (repeat with_reducible refine om ?_)
  refine qL hfx rfl rfl (by simp) (by simp[qS,TV.er,AV.er]) ?_
  (simp (maxSteps:=2000000) (disch:=first|omega|assumption) [zz,-List.reduceReplicate,Tryz.f5])
 by_cases hf0:f=0
 rotate_left
 ·(simp (maxSteps:=2000000) (disch:=first|omega|assumption) [zz,-List.reduceReplicate,he,hf0])
  (repeat with_reducible refine om ?_)
  refine qL hfx rfl rfl (by simp) (by simp[qS,TV.er,AV.er]) ?_
  (simp (maxSteps:=2000000) (disch:=first|omega|assumption) [zz,-List.reduceReplicate,Tryz.f5])
 rw[hf0]at hf
 obtain⟨hk1,hc⟩:=zE6 hf.symm
 have hTr:T=zD3 K o:=by rw[hT,ofT,if_neg (by simp[hk1]),if_pos hc]
 have hTR:T.reads=o.reads:=by rw[hTr];rfl
 have hTO:T.outs.length=o.outs.length:=by rw[hTr];simp[zD3]
 have hnd:=(zDi (zDz hc)).2
 rw[show (zD3 K o).reads=o.reads from rfl]at hnd
 obtain⟨ht,hr5,hrp,ho1,hop⟩:=hat he
 have hte:=zd4 T
 have hhold:=fun l hl=>zE9 T l hl (by rw[hTR];omega)
 rw[hTR]at hhold
 (simp (maxSteps:=2000000) (disch:=first|omega|assumption) [zz,-List.reduceReplicate,he,hf0])
 (repeat with_reducible refine om ?_)
 refine AT.loop' (α:=Nat) (fun k=>St.of [(1,.av (.slice 63) (zU fs)),(4,.cst (.bool false)),(5,.loc 5 []),(7,.loc 7 []),(9,.av (.slice 79) (.sl (tkG 78 k) ((o.reads.take k).map qI))),(10,.av (.int .i64) (.i .i64 k))] [(5,(qD Tryz.prog 41,zI o)),(7,(qD Tryz.prog 72,qK T))] (fun j=>if j=78 then k else 0) [])
  (fun k=>k≤o.reads.length) (fun k=>o.reads.length-k) 0 ?_ ?_ ?_
 ·refine Le.of ?_ ?_ ?_ ?_ ?_<;>simp[qU,qG,zX,tkG]<;>try omega
 ·omega
 rintro k hk KL hN hE
 have hh:=hhold (o.reads.take k) (by rw[List.length_take];omega)
 refine qM (cf:=zEw) laid mixed _ _ _ (by kernel_rfl) ?_
 by_cases hlt:k<o.reads.length
 ·have hlt':(k:Int)<o.reads.length:=by omega
  rw[zE1 hnd hlt]at hh
  have hg:(o.reads.map qI)[k]?=some (qI o.reads[k]):=KB qI _ k hlt
  have hrt:=ht _ (List.getElem_mem hlt)
  have hst:(o.reads.map qI).take (k+1)=(o.reads.map qI).take k++[qI o.reads[k]]:=by
   rw[←List.map_take,List.take_succ_eq_append_getElem hlt,List.map_append,List.map_take];rfl
  obtain⟨r,hr⟩:∃r,r=o.reads[k]:=⟨_,rfl⟩
  rw[←hr]at hh hg hrt hst
  have htp:=zvy fs r.path
  have hta:=zuU hl r.path _ rfl
  have hrtl:=zvP fs (by omega) r.path
  obtain⟨q,hq⟩:∃q,q=z1 fs r.path:=⟨_,rfl⟩
  rw[←hq]at hrt hta hrtl
  have hrd:=zDP q (by have:=hta.2;omega)
  rw[hrt]at hrd
  have hqe:=(vU q).1
  (simp (maxSteps:=2000000) (disch:=first|omega|assumption) [zz,-List.reduceReplicate,hlt',zI,qF])
  refine qL hh rfl rfl (by simp) (by simp[qS,TV.er,AV.er,hte,qF,AV.ers_eq,Function.comp_def]) ?_
  (simp (maxSteps:=2000000) (disch:=first|omega|assumption) [zz,-List.reduceReplicate,hlt',hlt,hg,zD6,qI,zI,qF])
  refine qL hrtl rfl rfl (by simp) (by simp[qS,TV.er,AV.er,hex]) ?_
  (simp (maxSteps:=2000000) (disch:=first|omega|assumption) [zz,-List.reduceReplicate])
  refine qL hrd rfl rfl (by simp) (by simp[qS,TV.er,AV.er,hqe]) ?_
  (simp (maxSteps:=2000000) (disch:=first|omega|assumption) [zz,-List.reduceReplicate])
  refine zD9 (by simp) (by simp;omega) (by simp;omega) (by simp) (by simp) ?_
  (simp (maxSteps:=2000000) (disch:=first|omega|assumption) [zz,-List.reduceReplicate])
  refine hN _ (k+1) ?_ (by omega) (by omega)
  refine Le.of ?_ ?_ ?_ ?_ ?_<;>simp[qU,qG,zX,hst,zI,qF]<;>try omega
  all_goals (intro j;by_cases hj:j=78<;>simp[hj])
 ·have hlt':¬(k:Int)<o.reads.length:=by omega
  rw[List.take_of_length_le (by omega),zDS hnd]at hh
  (simp (maxSteps:=2000000) (disch:=first|omega|assumption) [zz,-List.reduceReplicate,hlt',zI,qF])
  refine hE _ _ (by simp) ?_
  rw[List.take_of_length_le (by simp;omega)]
  (simp (maxSteps:=2000000) (disch:=first|omega|assumption) [zz,-List.reduceReplicate])
  refine qL hh rfl rfl (by simp) (by simp[qS,TV.er,AV.er,hte,qF,AV.ers_eq,Function.comp_def]) ?_
  (simp (maxSteps:=2000000) (disch:=first|omega|assumption) [zz,-List.reduceReplicate,zD6,qK,qJ,zU,hTO])
  refine qL hfx rfl rfl (by simp) (by simp[qS,TV.er,AV.er]) ?_
  (simp (maxSteps:=2000000) (disch:=first|omega|assumption) [zz,-List.reduceReplicate,Tryz.f5])
theorem zwJ {n:Nat} {x:AV} (h:WTy Tryz.prog (n+2) 63 x):∃f:U1,x=jZ f:=by
 rw[WTy]at h
 simp only[zBr]at h
 obtain⟨xs,rfl,hlen,h⟩:=h
 match xs,hlen with
 | [a,b],_ =>
  obtain⟨s,rfl⟩:=GL (h 0 9 a rfl rfl)
  obtain⟨u,rfl⟩:=GL (h 1 9 b rfl rfl)
  exact⟨⟨s,u⟩,rfl⟩
theorem zvZ {n:Nat} {x:AV} (h:WTy Tryz.prog (n+3) 38 x):∃l:List U1,x=zU l:=by
 rw[WTy]at h
 simp only[ztT]at h
 obtain⟨xs,rfl,hlen,h⟩:=h
 obtain⟨l,rfl,_⟩:=DU (α:=U1) (f:=jZ) (r:=fun _=>True) h fun y hy=>by obtain⟨s,rfl⟩:=zwJ hy;exact⟨s,rfl,trivial⟩
 exact⟨l,rfl⟩
theorem zvv:∀l:List U1,flW l≤ZD (l.map jZ)
 | []=>by simp[flW]
 | x::l=>by
  have:=zvv l
  simp only[flW,List.map_cons,jZ,ZD,QJ];omega
theorem zvs (l:List U1):flW l≤QJ (zU l):=by
 have h1:=zvv l
 simp only[zU,QJ];omega
end Go.Proofs.YtooipdkilgpojaaGreatDoor
end
