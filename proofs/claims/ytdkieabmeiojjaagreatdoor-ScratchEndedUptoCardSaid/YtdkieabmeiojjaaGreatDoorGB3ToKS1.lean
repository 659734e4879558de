/- Does a pattern match a path? The program. No condition. -/
import Derived.Test.YtdkieabmeiojjaaGreatDoorK11ToGB2
set_option linter.unusedSimpArgs false
set_option linter.unusedVariables false
set_option linter.unusedSectionVars false
set_option maxHeartbeats 64000000
set_option maxRecDepth 100000
namespace Go.Proofs.YtdkieabmeiojjaaGreatDoor
open Go Go.Ab
open Classical
section
variable [Sel] [SelPow] [SelMax]
def VX (f:List Txt->Bool):List Txt->Bool
 | []=>f []
 | c::cs=>f (c::cs)||VX f cs
def kU:List Txt->List Txt->Bool
 | [],ns=>ns.isEmpty
 | x::xs,ns=>if x=[42,42] then(if xs=[] then !ns.isEmpty else VX (kU xs) ns) else match ns with
  | []=>false
  | n::ms=>Z4 x n&&kU xs ms
def uF (p s:Txt):Bool:=CK p&&w5 s&&kU (qK 47 p) (qK 47 s)
abbrev VP:TyD:=.map 208 4
abbrev TsT:TyD:=.slice 9
def YE (a:Nat × Nat):AV:=.agg [.i .i64 a.1,.i .i64 a.2]
def W4 (m:List ((Nat × Nat) × Bool)):List (AV × AV):=m.map fun x=>(YE x.1,.b x.2)
def vA (ps ns:List Txt) (m:List ((Nat × Nat) × Bool)):Prop:=∀x∈m,x.2=true->kU (ps.drop x.1.1) (ns.drop x.1.2)=false
theorem ze2 {a b:Nat × Nat}:YE a=YE b<->a=b:=by
 obtain⟨a1,a2⟩:=a;obtain⟨b1,b2⟩:=b
 simp only[YE,AV.agg.injEq,List.cons.injEq,AV.i.injEq,Prod.mk.injEq,true_and,and_true]
 omega
theorem zae (a:Nat × Nat):∀m:List ((Nat × Nat) × Bool),wQ (YE a) (W4 m)=none\/∃b,wQ (YE a) (W4 m)=some (.b b)/\(a,b)∈m
 | []=>.inl rfl
 | (x,b)::m=>by
  have ih:=zae a m
  simp only[W4,List.map_cons,wQ,ze2]
  by_cases h:x=a
  ·subst h;rw[if_pos rfl];exact .inr ⟨b,rfl,by simp⟩
  ·rw[if_neg h]
   rcases ih with ih|⟨c,h1,h2⟩
   ·exact .inl ih
   ·exact .inr ⟨c,h1,by simp[h2]⟩
theorem dA (ps ns:List Txt) (a:Nat × Nat) (v:Bool) (hv:v=true->kU (ps.drop a.1) (ns.drop a.2)=false):∀m:List ((Nat × Nat) × Bool),vA ps ns m->∃m',K3 (YE a) (.b v) (W4 m)=W4 m'/\vA ps ns m'
 | [],_=>⟨[(a,v)],rfl,fun x hx h=>by
  rw[List.mem_singleton.1 hx]at h |-;exact hv h⟩
 | (x,b)::m,hm=>by
  obtain⟨m',h1,h2⟩:=dA ps ns a v hv m fun y hy=>hm y (by simp[hy])
  simp only[W4,List.map_cons,K3,ze2]
  by_cases h:x=a
  ·subst h;rw[if_pos rfl]
   refine⟨(x,v)::m,rfl,fun y hy hh=>?_⟩
   rcases List.mem_cons.1 hy with rfl|hy
   ·exact hv hh
   ·exact hm y (by simp[hy]) hh
  ·rw[if_neg h]
   refine⟨(x,b)::m',by simp only[W4]at h1;rw[h1];rfl,fun y hy hh=>?_⟩
   rcases List.mem_cons.1 hy with rfl|hy
   ·exact hm _ (by simp) hh
   ·exact h2 y hy hh
noncomputable def WR (l:List Txt):HObj:=.var TsT (.sl .no (strs l))
noncomputable def zpn (N:Nat):HObj:=.var VP (.map (some N))
def znC (b5 b6 b7 b8:Nat):AV:=.fn 154 [.ptr b5 TsT [],.ptr b6 TsT [],.ptr b7 VP [],.ptr b8 .func []]
noncomputable def yK (b5 b6 b7 b8 N:Nat) (ps ns:List Txt) (m:List ((Nat × Nat) × Bool)):q8:=[(b5,WR ps),(b6,WR ns),(b7,zpn N),(b8,.var .func (znC b5 b6 b7 b8)),(N,.map 208 4 (W4 m))]
theorem uL (b5 b6 b7 b8 N:Nat) (ps ns:List Txt) (m:List ((Nat × Nat) × Bool)):(yK b5 b6 b7 b8 N ps ns m).er=yK b5 b6 b7 b8 N ps ns m:=by
 have h1:∀l,(WR l).er=WR l:=fun l=>by simp[WR,HObj.er_var,AV.erk]
 have h2:(HObj.map 208 4 (W4 m)).er=.map 208 4 (W4 m):=by
  simp[HObj.er_map,W4,YE,AV.er,AV.ers,Function.comp_def]
 simp only[yK,q8.er_cons,q8.er_nil,h1,h2];rfl
abbrev zqp:Cfg:=⟨fun _=>false,fun n=>n==52⟩
theorem zmc (m:List ((Nat × Nat) × Bool)):(W4 m).map (fun p=>(p.1.er,p.2.er))=W4 m:=by
 simp[W4,YE,AV.er,AV.ers,Function.comp_def]
theorem cU {xs ns:List Txt} (h:xs≠[]):kU ([42,42]::xs) ns=VX (kU xs) ns:=by
 cases xs with
 | nil=>exact absurd rfl h
 | cons y r=>cases ns<;>simp[kU]
theorem ziu {x n:Txt} {xs ms:List Txt} (h:x≠[42,42]):kU (x::xs) (n::ms)=(Z4 x n&&kU xs ms):=by
 simp[kU,h]
theorem zm4 (b5 b6 b7 b8 N:Nat) (ps ns:List Txt) (hps:ps.length<=2000000) (hns:ns.length<=2000000) (hpl:∀x∈ps,x.length<=2000000) (hnl:∀x∈ns,x.length<=2000000):∀(z i k:Nat) (m:List ((Nat × Nat) × Bool)),(ps.length-i)+(ns.length-k)<z->i<=ps.length->k<=ns.length->vA ps ns m->
  q7 Tryz.prog 154 [.av (.int .i64) (.i .i64 i),.av (.int .i64) (.i .i64 k),.av .ptr (.ptr b5 TsT []),.av .ptr (.ptr b6 TsT []),.av .ptr (.ptr b7 VP []),.av .ptr (.ptr b8 .func [])] (yK b5 b6 b7 b8 N ps ns m)
   fun r H'=>r=.av .bool (.b (kU (ps.drop i) (ns.drop k)))/\∃m',vA ps ns m'/\H'=yK b5 b6 b7 b8 N ps ns m':=by
 intro z
 induction z with
 | zero=>intro i k m hz;omega
 | succ z ih =>
  intro i k m hz hi hk hm
  refine q7.nodup fun hnd=>?_
  simp[yK,q8.keys]at hnd
  obtain⟨⟨n1,n2,n3,n4⟩,⟨n5,n6,n7⟩,⟨n8,n9⟩,n10⟩:=hnd
  have sy:∀ {a b:Nat},¬a=b->¬b=a:=fun h e=>h e.symm
  have n1':=sy n1;have n2':=sy n2;have n3':=sy n3;have n4':=sy n4;have n5':=sy n5;have n6':=sy n6;have n7':=sy n7;have n8':=sy n8;have n9':=sy n9;have n10':=sy n10
  have hme:=zmc
  refine q7.sub (R:=fun r H'=>r=.av .bool (.b (kU (ps.drop i) (ns.drop k)))/\∃m',vA ps ns m'/\H'=yK b5 b6 b7 b8 N ps ns m') ?_ fun r H' h _=>⟨H',HSub.refl _,h⟩
  refine zov Tryz.func154 zqp fun imm0 w0=>?_
  rw[show yK b5 b6 b7 b8 N ps ns m=[(b5,.var TsT (.sl .no (strs ps))),(b6,.var TsT (.sl .no (strs ns))),(b7,.var VP (.map (some N))),(b8,.var .func (.fn 154 [.ptr b5 TsT [],.ptr b6 TsT [],.ptr b7 VP [],.ptr b8 .func []])),(N,.map 208 4 (W4 m))] from rfl]
  by_cases hip:i=ps.length
  ·have hip':(i:Int)=ps.length:=by omega
   have hd:kU (ps.drop i) (ns.drop k)=decide (k=ns.length):=by
    rw[List.drop_of_length_le (by omega),kU]
    by_cases hkn:k=ns.length
    ·subst hkn;simp
    ·have:ns.drop k≠[]:=fun e=>by have:=congrArg List.length e;simp at this;omega
     simp[hkn,this]
   have hkk:decide ((k:Int)=ns.length)=decide (k=ns.length):=decide_eq_decide.2 (by omega)
   simp (disch:=omega) [zz,hip',n1,n1',n2,n2',n3,n3',n4,n4',n5,n5',n6,n6',n7,n7',n8,n8',n9,n9',n10,n10']
   rw[hkk]
   simp (disch:=omega) [zz,hd,hme,Tryz.f154]
   exact⟨m,hm,rfl⟩
  have hip':¬(i:Int)=ps.length:=by omega
  have hil:i<ps.length:=by omega
  have hii:(i:Int)<ps.length:=by omega
  obtain⟨x,hx⟩:∃x,x=ps[i]:=⟨_,rfl⟩
  have hgx:(strs ps)[i]?=some (.s x):=by rw[xM ps i hil,hx]
  have hdp:ps.drop i=x::ps.drop (i+1):=by rw[List.drop_eq_getElem_cons hil,hx]
  have hxl:x.length<=2000000:=hpl x (by rw[hx];exact List.getElem_mem _)
  by_cases hf:wQ (YE (i,k)) (W4 m)=some (.b true)
  ·have hd:kU (ps.drop i) (ns.drop k)=false:=by
    rcases zae (i,k) m with h|⟨b,h1,h2⟩
    ·rw[h]at hf;cases hf
    ·rw[h1]at hf;cases hf
     exact hm _ h2 rfl
   simp only[YE]at hf
   simp (disch:=omega) [zz,hip',hf,n1,n1',n2,n2',n3,n3',n4,n4',n5,n5',n6,n6',n7,n7',n8,n8',n9,n9',n10,n10']
   simp (disch:=omega) [zz,hd,hme,Tryz.f154]
   exact⟨m,hm,rfl⟩
  have hf2:wQ (YE (i,k)) (W4 m)=none\/wQ (YE (i,k)) (W4 m)=some (.b false):=by
   rcases zae (i,k) m with h|⟨b,h1,h2⟩
   ·exact .inl h
   ·cases b with
    | true=>exact absurd h1 hf
    | false=>exact .inr h1
  clear hf
  by_cases hxs:x=[42,42]
  rotate_left
  ·-- a plain part
   by_cases hkn:k<ns.length
   rotate_left
   ·have hkn':¬(k:Int)<ns.length:=by omega
    have hd:kU (ps.drop i) (ns.drop k)=false:=by
     rw[hdp,List.drop_of_length_le (l:=ns) (by omega)]
     simp[kU,hxs]
    rcases hf2 with hf|hf
    all_goals
     simp only[YE]at hf
     simp (disch:=omega) [zz,hip',hii,hf,hgx,hxs,hkn',n1,n1',n2,n2',n3,n3',n4,n4',n5,n5',n6,n6',n7,n7',n8,n8',n9,n9',n10,n10']
     (repeat with_reducible refine om ?_)
     simp (disch:=omega) [zz,hd,hme,Tryz.f154]
     exact⟨m,hm,rfl⟩
   have hkn':(k:Int)<ns.length:=by omega
   obtain⟨n,hn⟩:∃n,n=ns[k]:=⟨_,rfl⟩
   have hgn:(strs ns)[k]?=some (.s n):=by rw[xM ns k hkn,hn]
   have hdn:ns.drop k=n::ns.drop (k+1):=by rw[List.drop_eq_getElem_cons hkn,hn]
   have hnl':n.length<=2000000:=hnl n (by rw[hn];exact List.getElem_mem _)
   have hd:kU (ps.drop i) (ns.drop k)=(Z4 x n&&kU (ps.drop (i+1)) (ns.drop (k+1))):=by
    rw[hdp,hdn,ziu hxs]
   have hone:=znY x n (by omega) (by omega)
   have hih:=ih (i+1) (k+1) m (by omega) (by omega) (by omega) hm
   obtain⟨o,ho⟩:∃o,o=Z4 x n:=⟨_,rfl⟩
   rw[<-ho]at hone hd
   have hfx:∃q,wQ (YE (i,k)) (W4 m)=q/\(q=none\/q=some (.b false)):=⟨_,rfl,hf2⟩
   rcases hf2 with hf|hf
   all_goals
    simp only[YE]at hf
    cases o with
    | false =>
     simp (disch:=omega) [zz,hip',hii,hf,hgx,hxs,hkn',hgn,n1,n1',n2,n2',n3,n3',n4,n4',n5,n5',n6,n6',n7,n7',n8,n8',n9,n9',n10,n10']
     try (repeat with_reducible refine om ?_)
     refine zcd (hone) ?_;(simp (maxSteps:=2000000) (disch:=first|omega|assumption) [zz,n1,n1',n2,n2',n3,n3',n4,n4',n5,n5',n6,n6',n7,n7',n8,n8',n9,n9',n10,n10'])
     try (repeat with_reducible refine om ?_)
     simp (disch:=omega) [zz,hd,hme,Tryz.f154]
     exact⟨m,hm,rfl⟩
    | true =>
     simp (disch:=omega) [zz,hip',hii,hf,hgx,hxs,hkn',hgn,n1,n1',n2,n2',n3,n3',n4,n4',n5,n5',n6,n6',n7,n7',n8,n8',n9,n9',n10,n10']
     try (repeat with_reducible refine om ?_)
     refine zcd (hone) ?_;(simp (maxSteps:=2000000) (disch:=first|omega|assumption) [zz,n1,n1',n2,n2',n3,n3',n4,n4',n5,n5',n6,n6',n7,n7',n8,n8',n9,n9',n10,n10'])
     try (repeat with_reducible refine om ?_)
     refine qD (R:=fun r H'=>r=.av .bool (.b (kU (ps.drop (i+1)) (ns.drop (k+1))))/\∃m',vA ps ns m'/\H'=yK b5 b6 b7 b8 N ps ns m') (yK b5 b6 b7 b8 N ps ns m) [] (by rw[List.append_nil];exact List.Perm.refl _) rfl (by simp[qE]) (by simp) ?_ ?_
     ·rw[uL]
      simpa[TV.er,AV.er,AV.ers]using hih
     rintro r H' ⟨rfl,m',hm',rfl⟩ _
     refine⟨yK b5 b6 b7 b8 N ps ns m',by rw[List.append_nil];exact HSub.refl _,?_⟩
     rw[show yK b5 b6 b7 b8 N ps ns m'=[(b5,.var TsT (.sl .no (strs ps))),(b6,.var TsT (.sl .no (strs ns))),(b7,.var VP (.map (some N))),(b8,.var .func (.fn 154 [.ptr b5 TsT [],.ptr b6 TsT [],.ptr b7 VP [],.ptr b8 .func []])),(N,.map 208 4 (W4 m'))] from rfl]
     simp (disch:=omega) [zz,hd,hme,Tryz.f154]
     exact⟨m',hm',rfl⟩
  subst hxs
  by_cases hil1:i+1=ps.length
  ·have hil':(ps.length:Int)-1=i:=by omega
   have hd:kU (ps.drop i) (ns.drop k)=decide (k<ns.length):=by
    rw[hdp,List.drop_of_length_le (l:=ps) (by omega)]
    by_cases hkn:k<ns.length
    ·rw[List.drop_eq_getElem_cons hkn];simp[kU,hkn]
    ·rw[List.drop_of_length_le (by omega)];simp[kU,hkn]
   rcases hf2 with hf|hf
   all_goals
    simp only[YE]at hf
    simp (disch:=omega) [zz,hip',hii,hil',hf,hgx,n1,n1',n2,n2',n3,n3',n4,n4',n5,n5',n6,n6',n7,n7',n8,n8',n9,n9',n10,n10']
    try (repeat with_reducible refine om ?_)
    simp (disch:=omega) [zz,hd,hme,Tryz.f154]
    exact⟨m,hm,rfl⟩
  have hil':¬(i:Int)=(ps.length:Int)-1:=by omega
  have hne:ps.drop (i+1)≠[]:=fun e=>by have:=congrArg List.length e;simp at this;omega
  have hih:=ih (i+1) k m (by omega) (by omega) hk hm
  have hdd:kU (ps.drop i) (ns.drop k)=VX (kU (ps.drop (i+1))) (ns.drop k):=by rw[hdp,cU hne]
  obtain⟨y,hy⟩:∃y,y=kU (ps.drop (i+1)) (ns.drop k):=⟨_,rfl⟩
  rw[<-hy]at hih
  rcases hf2 with hf|hf
  all_goals
   simp only[YE]at hf
   cases y with
   | true =>
    have hd:kU (ps.drop i) (ns.drop k)=true:=by
     rw[hdd]
     cases hns:ns.drop k with
     | nil=>rw[VX,<-hns,<-hy]
     | cons a b=>rw[VX,<-hns,<-hy];rfl
    simp (disch:=omega) [zz,hip',hii,hil',hf,hgx,n1,n1',n2,n2',n3,n3',n4,n4',n5,n5',n6,n6',n7,n7',n8,n8',n9,n9',n10,n10']
    try (repeat with_reducible refine om ?_)
    refine qD (R:=fun r H'=>r=.av .bool (.b true)/\∃m',vA ps ns m'/\H'=yK b5 b6 b7 b8 N ps ns m') (yK b5 b6 b7 b8 N ps ns m) [] (by rw[List.append_nil];exact List.Perm.refl _) rfl (by simp[qE]) (by simp) ?_ ?_
    ·rw[uL]
     simpa[TV.er,AV.er,AV.ers]using hih
    rintro r H' ⟨rfl,m',hm',rfl⟩ _
    refine⟨yK b5 b6 b7 b8 N ps ns m',by rw[List.append_nil];exact HSub.refl _,?_⟩
    obtain⟨m2,hp1,hp2⟩:=dA ps ns (i,k) false (fun e=>by cases e) m' hm'
    simp only[YE]at hp1
    rw[show yK b5 b6 b7 b8 N ps ns m'=[(b5,.var TsT (.sl .no (strs ps))),(b6,.var TsT (.sl .no (strs ns))),(b7,.var VP (.map (some N))),(b8,.var .func (.fn 154 [.ptr b5 TsT [],.ptr b6 TsT [],.ptr b7 VP [],.ptr b8 .func []])),(N,.map 208 4 (W4 m'))] from rfl]
    simp (disch:=omega) [zz,hp1,n1,n1',n2,n2',n3,n3',n4,n4',n5,n5',n6,n6',n7,n7',n8,n8',n9,n9',n10,n10']
    simp (disch:=omega) [zz,hd,hme,Tryz.f154]
    exact⟨m2,hp2,rfl⟩
   | false =>
    simp (disch:=omega) [zz,hip',hii,hil',hf,hgx,n1,n1',n2,n2',n3,n3',n4,n4',n5,n5',n6,n6',n7,n7',n8,n8',n9,n9',n10,n10']
    try (repeat with_reducible refine om ?_)
    refine qD (R:=fun r H'=>r=.av .bool (.b false)/\∃m',vA ps ns m'/\H'=yK b5 b6 b7 b8 N ps ns m') (yK b5 b6 b7 b8 N ps ns m) [] (by rw[List.append_nil];exact List.Perm.refl _) rfl (by simp[qE]) (by simp) ?_ ?_
    ·rw[uL]
     simpa[TV.er,AV.er,AV.ers]using hih
    rintro r H' ⟨rfl,m',hm',rfl⟩ _
    refine⟨yK b5 b6 b7 b8 N ps ns m',by rw[List.append_nil];exact HSub.refl _,?_⟩
    rw[show yK b5 b6 b7 b8 N ps ns m'=[(b5,.var TsT (.sl .no (strs ps))),(b6,.var TsT (.sl .no (strs ns))),(b7,.var VP (.map (some N))),(b8,.var .func (.fn 154 [.ptr b5 TsT [],.ptr b6 TsT [],.ptr b7 VP [],.ptr b8 .func []])),(N,.map 208 4 (W4 m'))] from rfl]
    by_cases hkn:k<ns.length
    rotate_left
    ·have hkn':¬(k:Int)<ns.length:=by omega
     have hd:kU (ps.drop i) (ns.drop k)=false:=by
      rw[hdd,List.drop_of_length_le (l:=ns) (by omega),VX]
      rw[List.drop_of_length_le (l:=ns) (by omega)]at hy
      exact hy.symm
     obtain⟨m2,hp1,hp2⟩:=dA ps ns (i,k) true (fun _=>hd) m' hm'
     simp only[YE]at hp1
     simp (disch:=omega) [zz,hkn',hp1,n1,n1',n2,n2',n3,n3',n4,n4',n5,n5',n6,n6',n7,n7',n8,n8',n9,n9',n10,n10']
     simp (disch:=omega) [zz,hd,hme,Tryz.f154]
     exact⟨m2,hp2,rfl⟩
    have hkn':(k:Int)<ns.length:=by omega
    have hd:kU (ps.drop i) (ns.drop k)=kU (ps.drop i) (ns.drop (k+1)):=by
     have e:kU (ps.drop i) (ns.drop (k+1))=VX (kU (ps.drop (i+1))) (ns.drop (k+1)):=by rw[hdp,cU hne]
     rw[hdd,e]
     rw[List.drop_eq_getElem_cons hkn]at hy |-
     rw[VX,<-hy,Bool.false_or]
    have hih2:=ih i (k+1) m' (by omega) hi (by omega) hm'
    rw[hd]
    obtain⟨y2,hy2⟩:∃y2,y2=kU (ps.drop i) (ns.drop (k+1)):=⟨_,rfl⟩
    rw[<-hy2]at hih2 hd
    simp (disch:=omega) [zz,hkn',n1,n1',n2,n2',n3,n3',n4,n4',n5,n5',n6,n6',n7,n7',n8,n8',n9,n9',n10,n10']
    try (repeat with_reducible refine om ?_)
    refine qD (R:=fun r H'=>r=.av .bool (.b y2)/\∃m',vA ps ns m'/\H'=yK b5 b6 b7 b8 N ps ns m') (yK b5 b6 b7 b8 N ps ns m') [] (by rw[List.append_nil];exact List.Perm.refl _) rfl (by simp[qE]) (by simp) ?_ ?_
    ·rw[uL]
     simpa[TV.er,AV.er,AV.ers]using hih2
    rintro r H' ⟨rfl,m3,hm3,rfl⟩ _
    refine⟨yK b5 b6 b7 b8 N ps ns m3,by rw[List.append_nil];exact HSub.refl _,?_⟩
    rw[show yK b5 b6 b7 b8 N ps ns m3=[(b5,.var TsT (.sl .no (strs ps))),(b6,.var TsT (.sl .no (strs ns))),(b7,.var VP (.map (some N))),(b8,.var .func (.fn 154 [.ptr b5 TsT [],.ptr b6 TsT [],.ptr b7 VP [],.ptr b8 .func []])),(N,.map 208 4 (W4 m3))] from rfl]
    obtain⟨m2,hp1,hp2⟩:=dA ps ns (i,k) (!y2) (fun e=>by rw[hd];simpa using e) m3 hm3
    simp only[YE]at hp1
    cases y2 with
    | false =>
     simp only[Bool.not_false]at hp1
     simp (disch:=omega) [zz,hp1,n1,n1',n2,n2',n3,n3',n4,n4',n5,n5',n6,n6',n7,n7',n8,n8',n9,n9',n10,n10']
     simp (disch:=omega) [zz,<-hy2,hme,Tryz.f154]
     exact⟨m2,hp2,rfl⟩
    | true =>
     simp only[Bool.not_true]at hp1
     simp (disch:=omega) [zz,hp1,n1,n1',n2,n2',n3,n3',n4,n4',n5,n5',n6,n6',n7,n7',n8,n8',n9,n9',n10,n10']
     simp (disch:=omega) [zz,<-hy2,hme,Tryz.f154]
     exact⟨m2,hp2,rfl⟩
abbrev zqy:Cfg:=⟨fun n=>n==5||n==6||n==7||n==8,fun _=>false⟩
theorem zlI (p s:Txt) (hp:p.length<=1900000) (hs:s.length<=1900000):PC Tryz.prog 114 [.av .str (.s p),.av .str (.s s)] (.av .bool (.b (uF p s))):=by
 have hpl:=U0 47 p
 have hsl:=U0 47 s
 have hpe:∀x∈qK 47 p,x.length<=2000000:=fun x hx=>by have:=QN 47 p x hx;omega
 have hse:∀x∈qK 47 s,x.length<=2000000:=fun x hx=>by have:=QN 47 s x hx;omega
 refine zow Tryz.func114 zqy fun imm0 w0=>?_
 simp (disch:=omega) [zz]
 refine zcv (zgG p (by omega)) ?_
 cases h1:CK p
 ·simp (disch:=omega) [zz,Tryz.f114,uF,h1]
 simp (disch:=omega) [zz]
 refine zcv (YW s (by omega)) ?_
 cases h2:w5 s
 ·simp (disch:=omega) [zz,Tryz.f114,uF,h1,h2]
 simp (disch:=omega) [zz]
 refine qO (V4 p (by omega)) rfl rfl (by simp) (by simp[qR,coC,TV.er,AV.er]) ?_
 simp (disch:=omega) [zz]
 intro b5
 refine qO (V4 s (by omega)) rfl rfl (by simp) (by simp[qR,coC,TV.er,AV.er]) ?_
 simp (disch:=omega) [zz]
 intro b6 q1 N q2 q3 b7 r1 r2 r3 b8 u1 u2 u3 u4
 have hd:=zm4 b5 b6 b7 b8 N (qK 47 p) (qK 47 s) (by omega) (by omega) hpe hse _ 0 0 [] (Nat.lt_succ_self _) (by omega) (by omega) (by intro x hx;cases hx)
 rw[List.drop_zero,List.drop_zero]at hd
 refine qD (R:=fun r H'=>r=.av .bool (.b (kU (qK 47 p) (qK 47 s)))/\∃m',vA (qK 47 p) (qK 47 s) m'/\H'=yK b5 b6 b7 b8 N (qK 47 p) (qK 47 s) m') (yK b5 b6 b7 b8 N (qK 47 p) (qK 47 s) []) [] ?_ rfl (by simp[qE]) (by simp) ?_ ?_
 ·refine List.perm_iff_count.2 fun a=>?_
  simp only[yK,WR,zpn,znC,W4,TsT,VP,List.map_nil,List.count_append,List.count_cons,List.count_nil]
  omega
 ·rw[uL]
  refine q7.args (by simpa using hd) (by simp[qR,coC,TV.er,AV.er,AV.ers])
 rintro r H' ⟨rfl,m',hm',rfl⟩ _
 refine⟨_,by rw[List.append_nil];exact HSub.refl _,?_⟩
 simp (disch:=omega) [zz,Tryz.f114,uF,h1,h2]
def YS (l:List CmdV):List AV:=l.map zE
@[simp] theorem zbh (c:CmdV):(zE c).er=zE c:=by simp[zE,AV.er,AV.ers,AV.ers_eq,strs,Function.comp_def]
@[simp] theorem zpu (l:List CmdV):AV.ers (YS l)=YS l:=by simp[YS,AV.ers_eq,Function.comp_def]
abbrev zgg:TyD:=.slice 174
noncomputable def bcO (l:List CmdV):HObj:=.var zgg (.sl .no (YS l))
theorem zj5 (l:List CmdV):(bcO l).er=bcO l:=by simp[bcO,HObj.er_var,AV.erk]
abbrev zqr:Cfg:=⟨fun n=>n==1,fun _=>false⟩
theorem zkr (l:List CmdV):q7 Tryz.prog 109 [.av zgg (.sl .no (YS l))] [] fun r H'=>∃c,r=.av .func (.fn 142 [.ptr c zgg []])/\H'=[(c,bcO l)]:=by
 refine zov Tryz.func109 zqr fun imm0 w0=>?_
 simp (disch:=omega) [zz]
 intro c
 simp (disch:=omega) [zz,Tryz.f109,bcO,AV.ers]
theorem zhB {G:Nat->q8->Prop} (y c:Nat) (l:List CmdV) (hl:l.length<=1000000000) (hGe:∀k H,G k H->H.er=H)
  (hY:∀k (hk:k<l.length) H,G k H->YC Tryz.prog y [.av (.int .i64) (.i .i64 (l.length-1-k:Nat)),.av QQ (zE (l[l.length-1-k]'(by omega)))] H fun r H'=>r=.av .bool (.b true)/\G (k+1) H') :
  ∀H,G 0 H->q7 Tryz.prog 142 [.av .func (.yl y),.av .ptr (.ptr c zgg [])] ((c,bcO l)::H)
   fun r H'=>r=.tup []/\∃H1,G l.length H1/\H'=(c,bcO l)::H1:=by
 intro H hG
 have hbe:=zj5 l
 have hsl:∀x:List CmdV,(YS x).length=x.length:=fun x=>by simp[YS]
 refine zov Tryz.func142 cf0 fun imm0 w0=>?_
 simp (disch:=omega) [zz,bcO,hsl]
 refine AT.loop' (α:=Nat × q8) (fun p=>St.of [(0,.av .func (.yl y)),(1,.av .ptr (.ptr c zgg [])),(3,.av (.int .i64) (.i .i64 ((l.length:Int)-1-p.1)))] [] (fun _=>0) ((c,bcO l)::p.2))
  (fun p=>p.1<=l.length/\G p.1 p.2) (fun p=>l.length-p.1) (0,H) ?_ ?_ ?_
 ·apply Le.of<;>simp[zR,qI,bcO]<;>try omega
 ·exact⟨by omega,hG⟩
 rintro⟨k,H1⟩ ⟨hk,hG1⟩ KL hN hE
 simp only at hk hG1 hN
 refine zrd cf0 ?_
 by_cases hlt:k<l.length
 ·obtain⟨i,hi⟩:∃i:Nat,i=l.length-1-k:=⟨_,rfl⟩
  have hii:(l.length:Int)-1-k=i:=by omega
  have hil:i<l.length:=by omega
  have hgi:(YS l)[i]?=some (zE l[i]):=by simp[YS,List.getElem?_eq_getElem hil]
  rw[hii]
  have hge:(0:Int)<=i:=by omega
  simp (disch:=omega) [zz,hge,bcO,hgi,hsl,hil]
  refine KA (R:=fun r H'=>r=.av .bool (.b true)/\G (k+1) H') H1 [(c,bcO l)] (List.perm_append_comm (l₁:=[_])) (by simp[qE]) ?_ ?_
  ·rw[hGe _ _ hG1]
   have:=hY k hlt _ hG1
   simpa[TV.er,<-hi]using this
  rintro r H2 ⟨rfl,hG2⟩ _
  refine⟨(c,bcO l)::H2,HSub.of_perm (List.perm_append_comm (l₂:=[_])),?_⟩
  simp (disch:=omega) [zz]
  refine hN _ (k+1,H2) ?_ ⟨by omega,hG2⟩ (by simp only;omega)
  apply Le.of<;>simp[zR,qI,bcO]<;>try omega
 ·have hge:(l.length:Int)-1-k=-1:=by omega
  rw[hge]
  simp (disch:=omega) [zz]
  refine hE _ _ (by simp) ?_
  have hkl:k=l.length:=by omega
  subst hkl
  have hH:=hGe _ _ hG1
  simp (disch:=omega) [zz,Tryz.f142,hH,hbe]
  exact⟨hG1,by first|rfl|simp[bcO]⟩
end
section
variable [Sel]
theorem W8 {l x:List UInt8} (h:x∈qU l):x.length<=l.length:=by
 unfold qU at h
 split at h
 ·cases h
 ·have h1:=QN 10 (KQ l [10]) x h
  have h2:=UH l [10]
  omega
end
section
variable [Sel] [SelPow] [SelMax]
noncomputable def CO (t:Txt):TV:=match zL t with
 | .ok l=>.tup [(.slice 174,.sl .no (YS l)),(.int .i64,.i .i64 0),(.int .i64,.i .i64 0)]
 | .error (e,n)=>.tup [(.slice 174,.sl .no []),(.int .i64,.i .i64 e),(.int .i64,.i .i64 n)]
def tkC (n:Nat):Ab.Tok:=if n=0 then .full else .own 44 n
theorem GM:∀(ls:List Txt) (i:Nat) (l:List CmdV),yF i ls=.ok l->l.length<=ls.length
 | [],i,l,h=>by cases h;simp
 | s::r,i,l,h=>by
  unfold yF at h
  split at h
  ·cases h
  ·have:=GM r _ _ h;simp;omega
  ·split at h
   ·rename_i l' hl'
    cases h
    have:=GM r _ _ hl';simp;omega
   ·cases h
theorem ze0 (a b:List CmdV):YS (a++b)=YS a++YS b:=by simp[YS]
@[simp] theorem zp8 (a:List CmdV):(YS a).length=a.length:=by simp[YS]
@[simp] theorem zoT (l:List CmdV):AV.erks (YS l)=YS l:=by
 rw[AV.erks_eq]
 simp only[YS,List.map_map]
 exact List.map_congr_left fun c _=>k8 _ (zbh c)
def CmI (ls:List Txt) (k:Nat) (acc:List CmdV):Prop:=k<=ls.length/\acc.length<=k/\yF 0 ls=match yF k (ls.drop k)with
 | .ok l=>.ok (acc++l)
 | .error e=>.error e
theorem CmI.start (ls:List Txt):CmI ls 0 []:=⟨by omega,by simp,by rw[List.drop_zero];cases yF 0 ls<;>rfl⟩
theorem CmI.pass {ls:List Txt} {k:Nat} {acc:List CmdV} (h:CmI ls k acc) (hk:k<ls.length) (hr:ZA ls[k]=some none):CmI ls (k+1) acc:=by
 obtain⟨_,h1,h2⟩:=h
 refine⟨by omega,by omega,?_⟩
 rw[h2,List.drop_eq_getElem_cons hk,yF,hr]
theorem CmI.more {ls:List Txt} {k:Nat} {acc:List CmdV} (h:CmI ls k acc) (hk:k<ls.length) {c:CmdV} (hr:ZA ls[k]=some (some c)):CmI ls (k+1) (acc++[c]):=by
 obtain⟨_,h1,h2⟩:=h
 refine⟨by omega,by simp;omega,?_⟩
 rw[h2,List.drop_eq_getElem_cons hk,yF,hr]
 simp only
 cases yF (k+1) (ls.drop (k+1))<;>simp
theorem CmI.bad {ls:List Txt} {k:Nat} {acc:List CmdV} (h:CmI ls k acc) (hk:k<ls.length) (hr:ZA ls[k]=none):yF 0 ls=.error (k+1):=by
 obtain⟨_,h1,h2⟩:=h
 rw[h2,List.drop_eq_getElem_cons hk,yF,hr]
theorem CmI.end_ {ls:List Txt} {acc:List CmdV} (h:CmI ls ls.length acc):yF 0 ls=.ok acc:=by
 obtain⟨_,h1,h2⟩:=h
 rw[h2,List.drop_length,yF]
 simp
abbrev zpi:Cfg:=⟨fun _=>false,fun n=>n==44⟩
theorem pZ (t:Txt) (hl:t.length<=1000000):PC Tryz.prog 108 [.av .str (.s t)] (CO t):=by
 have hpc:=dU t hl
 have hll:=ZU t
 have heach:∀x∈qU t,x.length<=1000000:=fun x hx=>by have:=W8 hx;omega
 obtain⟨V,hV⟩:∃V,V=CO t:=⟨_,rfl⟩
 rw[<-hV]
 unfold CO zL at hV
 obtain⟨ls,hls⟩:∃ls,ls=qU t:=⟨_,rfl⟩
 rw[<-hls]at hpc hll heach hV
 refine zow Tryz.func108 zpi fun imm0 w0=>?_
 simp (disch:=omega) [zz]
 refine zcv hpc ?_
 by_cases hbig:65536<t.length
 ·have hbig':(65536:Int)<t.length:=by omega
  rw[if_pos (.inl hbig)]at hV
  simp (disch:=omega) [zz,hbig',Tryz.f108,hV]
 have hbig':¬(65536:Int)<t.length:=by omega
 by_cases hmany:400<ls.length
 ·have hmany':(400:Int)<ls.length:=by omega
  rw[if_pos (.inr hmany)]at hV
  simp (disch:=omega) [zz,hbig',hmany',strs,Tryz.f108,hV]
 have hmany':¬(400:Int)<ls.length:=by omega
 rw[if_neg (by omega)]at hV
 simp (disch:=omega) [zz,hbig',hmany',strs]
 refine AT.loop' (α:=Nat × List CmdV) (fun x=>St.of [(6,.av (.slice 174) (.sl (tkC x.2.length) (YS x.2))),(21,.av (.slice 9) (.sl .no (strs ls))),(22,.av (.int .i64) (.i .i64 ls.length)),(23,.av (.int .i64) (.i .i64 x.1))] [] (fun j=>if j=44 then x.2.length else 0) [])
  (fun x=>CmI ls x.1 x.2) (fun x=>ls.length-x.1) (0,[]) ?_ ?_ ?_
 ·apply Le.of<;>simp[zR,qI,tkC,YS,strs]<;>try omega
 ·exact CmI.start ls
 rintro⟨k,acc⟩ hI KL hN hE
 simp only at hI hN
 obtain⟨hk,hak,_⟩:=id hI
 refine zrd zpi ?_
 by_cases hlt:k<ls.length
 ·have hlt':(k:Int)<ls.length:=by omega
  have hg:(strs ls)[k]?=some (.s ls[k]):=by simp[strs,List.getElem?_eq_getElem hlt]
  have hxl:=heach _ (List.getElem_mem hlt)
  obtain⟨x,hx⟩:∃x,x=ls[k]:=⟨_,rfl⟩
  have hpass:=hI.pass hlt
  have hmore:=fun c=>hI.more hlt (c:=c)
  have hbad:=hI.bad hlt
  rw[<-hx]at hg hxl hpass hmore hbad
  simp (disch:=omega) [zz,hlt',hg]
  refine qD (R:=YX (ZA x)) [] [] (by simp) rfl (by simp[qE]) (by simp) ?_ ?_
  ·simpa[TV.er,AV.er]using zkO x hxl
  intro r H' hR hnd
  cases hrc:ZA x with
  | none =>
   rw[hrc]at hR
   obtain⟨rfl,rfl⟩:=hR
   rw[hbad hrc]at hV
   refine⟨[],HSub.refl _,?_⟩
   simp (disch:=omega) [zz]
   refine hE _ _ (by simp) ?_
   simp (disch:=omega) [zz,Tryz.f108,hV]
  | some oc =>
   cases oc with
   | none =>
    rw[hrc]at hR
    obtain⟨rfl,rfl⟩:=hR
    refine⟨[],HSub.refl _,?_⟩
    simp (disch:=omega) [zz]
    refine hN _ (k+1,acc) ?_ (hpass hrc) (by simp only;omega)
    apply Le.of<;>simp[zR,qI,z6]<;>try omega
   | some c =>
    rw[hrc]at hR
    obtain⟨b,rfl,rfl⟩:=hR
    refine⟨_,HSub.refl _,?_⟩
    have hby:Tryz.prog.bytesOf 174=40:=by kernel_rfl
    by_cases ha:acc.length=0
    ·simp (disch:=omega) [zz,kA,tkC,ha]
     simp (disch:=omega) [zz,yT,hby]
     (repeat with_reducible refine om ?_)
     refine hN _ (k+1,acc++[c]) ?_ (hmore c hrc) (by simp only;omega)
     refine Le.ofP ?_ ?_ ?_ ?_ (HSub.of_sub (List.nil_sublist _))<;>simp[zR,qI,tkC,ha,ze0]
     all_goals first|(left;rfl)|(intro j;by_cases hj:j=44<;>simp[hj])
    ·simp (disch:=omega) [zz,kA,tkC,ha]
     simp (disch:=omega) [zz,yT,hby]
     (repeat with_reducible refine om ?_)
     refine hN _ (k+1,acc++[c]) ?_ (hmore c hrc) (by simp only;omega)
     refine Le.ofP ?_ ?_ ?_ ?_ (HSub.of_sub (List.nil_sublist _))<;>simp[zR,qI,tkC,ha,ze0]
     all_goals first|(left;rfl)|(intro j;by_cases hj:j=44<;>simp[hj])
 have hkl:k=ls.length:=by omega
 subst hkl
 have hend:=hI.end_
 rw[hend]at hV
 simp (disch:=omega) [zz]
 refine hE _ _ (by simp) ?_
 simp (disch:=omega) [zz,Tryz.f108,hV]
end
end Go.Proofs.YtdkieabmeiojjaaGreatDoor
