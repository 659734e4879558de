/- May an action read a path? The document. No condition beyond each theorem's own. -/
import Derived.Test.YtooipdkilgpojaaGreatDoorHM1ToHM3
import Derived.Test.YtooipdkilgpojaaGreatDoorBX7ToBR1
import Derived.Test.YtooipdkilgpojaaGreatDoorRWGToHM0
import Derived.Test.YtooipdkilgpojaaGreatDoorBE0
import Derived.Test.YtooipdkilgpojaaGreatDoorBR0ToKK1
import Derived.Test.YtooipdkilgpojaaGreatDoorB0
import Derived.Test.YtooipdkilgpojaaGreatDoorAbXToY
set_option linter.unusedSimpArgs false
set_option linter.unusedVariables false
set_option linter.unusedSectionVars false
section
set_option maxRecDepth 100000
namespace Go.Proofs.YtooipdkilgpojaaGreatDoor
open Go Go.Ab
open Classical
variable [Sel] [SelPow] [SelMax]
set_option maxHeartbeats 8000000 in
theorem zcP (a:xW) (p:Txt) (hp:p.length≤1000000) (h1:a.ins.length≤1000000) (h2:a.asks.length≤1000000) (h3:a.outs.length≤1000000) (h4:∀x∈a.asks,x.length≤1000000) :
  PC Tryz.prog 40 [.av UI (kT a),.av .str (.s p)] (.av .bool (.b (jI a p))):=by
 obtain⟨pkg,name,tool,env,ins,asks,outs⟩:=a
 simp only at h1 h2 h3 h4
 have hmo:jI ⟨pkg,name,tool,env,ins,asks,outs⟩ p=(!decide (p∈outs)&&(decide (p∈ins)||asks.any fun a=>wL a p)):=rfl
 refine zow Tryz.func40 cf0 fun imm0 w0=>?_
 simp (disch:=omega) [zz,kT]
 refine zcv (zcM p outs (by omega)) ?_
 by_cases ho:p∈outs
 ·have hr:jI ⟨pkg,name,tool,env,ins,asks,outs⟩ p=false:=by rw[hmo];simp[ho]
  simp (disch:=omega) [zz,ho,hr,Tryz.f40]
 simp (disch:=omega) [zz,ho]
 refine zcv (zcM p ins (by omega)) ?_
 by_cases hi:p∈ins
 ·have hr:jI ⟨pkg,name,tool,env,ins,asks,outs⟩ p=true:=by rw[hmo];simp[ho,hi]
  simp (disch:=omega) [zz,hi,hr,Tryz.f40]
 have hma:jI ⟨pkg,name,tool,env,ins,asks,outs⟩ p=asks.any fun a=>wL a p:=by rw[hmo];simp[ho,hi]
 simp (disch:=omega) [zz,hi,qX]
 refine AT.loop' (α:=Nat) (fun k=>St.of [(1,.av .str (.s p)),(16,.av (.slice 9) (.sl .no (strs asks))),(17,.av (.int .i64) (.i .i64 asks.length)),(18,.av (.int .i64) (.i .i64 k))] [] (fun _=>0) [])
  (fun k=>k≤asks.length∧(asks.take k).any (fun a=>wL a p)=false) (fun k=>asks.length-k) 0 ?_ ?_ ?_
 ·apply Le.of<;>simp[qU,qG,qX]<;>try omega
 ·simp
 rintro k ⟨hk,hn⟩ KL hN hE
 refine qM (cf:=cf0) laid mixed _ _ _ (by kernel_rfl) ?_
 by_cases hlt:k<asks.length
 ·have hlt':(k:Int)<asks.length:=by omega
  obtain⟨x,hx⟩:∃x,x=asks[k]:=⟨_,rfl⟩
  have hgx:(strs asks)[k]?=some (.s x):=by rw[yH asks k hlt,hx]
  have hxm:x∈asks:=by rw[hx];exact List.getElem_mem _
  simp (disch:=omega) [zz,hlt',qX,hgx]
  refine zcv (zgK x p (h4 x hxm) hp) ?_
  cases hb:wL x p
  ·simp (disch:=omega) [zz]
   refine hN _ (k+1) ?_ ⟨by omega,by rw[List.take_succ_eq_append_getElem hlt,List.any_append,hn,←hx];simp[hb]⟩ (by omega)
   apply Le.of<;>simp[qU,qG,qX]<;>try omega
  ·have hr:jI ⟨pkg,name,tool,env,ins,asks,outs⟩ p=true:=by
    rw[hma];exact List.any_eq_true.2 ⟨x,hxm,hb⟩
   simp (disch:=omega) [zz]
   refine hE _ _ (by simp) ?_
   simp (disch:=omega) [zz,Tryz.f40,hr]
 ·have hlt':¬(k:Int)<asks.length:=by omega
  rw[List.take_of_length_le (by omega)]at hn
  have hr:jI ⟨pkg,name,tool,env,ins,asks,outs⟩ p=false:=by rw[hma,hn]
  simp (disch:=omega) [zz,hlt',qX]
  refine hE _ _ (by simp) ?_
  simp (disch:=omega) [zz,Tryz.f40,hr]
end Go.Proofs.YtooipdkilgpojaaGreatDoor
end
section
set_option maxRecDepth 100000
namespace Go.Proofs.YtooipdkilgpojaaGreatDoor
open Go Go.Ab
open Classical
variable [Sel] [SelPow] [SelMax]
theorem zHc (env:List (Txt × Txt)) (kn:List KnV):∀(l:List Txt) (s:StV),(Y9 env kn l s).wrote.length≤s.wrote.length+l.length
 | [],s=>by simp[Y9]
 | x::l,s=>by
  have h1:=zHC env kn x (zR x) s
  rw[Y9,List.length_cons]
  split
  ·have:=zHc env kn l s;omega
  split
  ·omega
  ·have:=zHc env kn l (xT env kn x (zR x) s);omega
theorem zHB {outs:List Txt} {l wr:List DoV} {d:DoV} (hp:wr++[d] <+: l) (hb:d.path∈wr.map (·.path)∨d.path∉outs):¬zfw outs l:=fun hr=>by
 have h5:(wr++[d]).Sublist l:=hp.sublist
 rcases hb with hb|hb
 ·have h6:((wr++[d]).map (·.path)).Nodup:=(h5.map _).nodup hr.1
  grind
 ·exact hb (hr.2 d (h5.subset (by simp)))
structure zIv (outs:List Txt) (may:Txt→Bool) (f:StV) (kn:List KnV) (b:zGo):Prop where
 wrong:¬zfw outs f.wrote→b.over=true∧(yD b).1=⟨2,14,[],kn.map J9⟩
 fail:zfw outs f.wrote→f.stop.kind=4→b.over=true∧(yD b).1=⟨2,f.stop.why,[],kn.map J9⟩
 short:zfw outs f.wrote→f.stop.kind=3→zHx outs (zGq f.wrote)=false→b.over=true∧(yD b).1=⟨2,14,[],kn.map J9⟩
 ends:zfw outs f.wrote→f.stop.kind=3→zHx outs (zGq f.wrote)=true→b.over=true∧(yD b).1=⟨1,0,zGq f.wrote,kn.map J9⟩
 one:zfw outs f.wrote→f.stop.kind≠4→f.stop.kind≠3→f.stop.path.length≤1040
 read:zfw outs f.wrote→f.stop.kind≠4→f.stop.kind≠3→may f.stop.path=false→b.over=true∧(yD b).1=⟨2,13,[],kn.map J9⟩
 waits:zfw outs f.wrote→f.stop.kind≠4→f.stop.kind≠3→may f.stop.path=true→b.over=false∧b.asks=f.stop.path
theorem Z4.says {env:List (Txt × Txt)} {cs:List CmdV} {outs:List Txt} {may:Txt→Bool} {kn:List KnV} {b:zGo} {lines:List Txt} (hl:zh5 env cs lines) (h:Z4 env cs outs may kn b) :
  zIv outs may (Y9 env kn lines st0) kn b:=by
 obtain⟨wr,hs⟩:=h.s
 have hask:=h.g.ask
 obtain⟨hF,hW⟩:=hs.far hl
 have hno:∀e,b.over=true→b.why=e→e≠0→b.over=true∧(yD b).1=⟨2,e,[],kn.map J9⟩:=fun e h1 h2 h3=>⟨h1,by
  unfold yD;rw[if_neg (by simp_all),if_neg (by omega),h2,hs.reads]⟩
 have hall:∀ {w:List DoV},zfw outs w→(zHx outs (zGq w)=true↔∀p∈outs,p∈w.map (·.path)):=fun {w} hr=>by
  have hp:=(zGG hr.1).1.map (·.path)
  rw[List.map_map]at hp
  unfold zHx
  rw[decide_eq_true_eq]
  exact⟨fun h p hp2=>hp.mem_iff.1 (h p hp2),fun h p hp2=>hp.mem_iff.2 (h p hp2)⟩
 have hlen:∀f:StV,f=Y9 env kn lines st0→zfw outs f.wrote→f.stop.kind=1→f.stop.path.length≤1040:=by
  intro f hf hr hk
  cases hs.e with
  | waits d hst h1 _ hw _ _ _ _ =>
   obtain⟨rfl,_⟩:=hl.stand hst
   rw[hf,hst.asks hw]
   exact zct (hask.ak hw)
  | read d hst h1 _ _ _ =>
   obtain⟨rfl,_⟩:=hl.stand hst
   have hw:=hst.waits.1 h1
   rw[hf,hst.asks hw]
   exact zct (hask.ak hw)
  | ended d hst h1 _ _ _=>obtain⟨rfl,_⟩:=hl.stand hst;simp_all
  | short d hst h1 _ _ _=>obtain⟨rfl,_⟩:=hl.stand hst;simp_all
  | failed d hst h1 _ _ _=>obtain⟨rfl,_⟩:=hl.stand hst;simp_all
  | wrote d hst hb _ _=>rw[hf]at hr;exact absurd hr (zHB (hl.at_ hst) hb)
 have hlen:=hlen _ rfl
 obtain⟨f,hf⟩:∃f,f=Y9 env kn lines st0:=⟨_,rfl⟩
 rw[←hf]at hF hW hlen ⊢
 have hwr:¬zfw outs f.wrote→b.over=true∧(yD b).1=⟨2,14,[],kn.map J9⟩:=fun hr=>by
  simp_all
 have k4:∀ {k:Int},f.stop.kind=k→k≠4→f.stop.kind=4→False:=fun a b c=>b (a.symm.trans c)
 have k3:∀ {k:Int},f.stop.kind=k→k≠3→f.stop.kind=3→False:=fun a b c=>b (a.symm.trans c)
 cases hF with
 | waits h1 h2 h3 h4 h5 h6=>exact⟨hwr,fun _ h=>(k4 h1 (by decide) h).elim,fun _ h=>(k3 h1 (by decide) h).elim,fun _ h=>(k3 h1 (by decide) h).elim,fun hr _ _=>hlen hr h1,fun _ _ _ h=>(by simp_all),fun _ _ _ _=>⟨h4,h3⟩⟩
 | read h1 h2 h3 h4 h5=>exact⟨hwr,fun _ h=>(k4 h1 (by decide) h).elim,fun _ h=>(k3 h1 (by decide) h).elim,fun _ h=>(k3 h1 (by decide) h).elim,fun hr _ _=>hlen hr h1,fun _ _ _ _=>hno 13 h3 h4 (by decide),fun _ _ _ h=>(by simp_all)⟩
 | ended h1 h2 h3 h4 h5 =>
  refine⟨hwr,fun _ h=>(k4 h1 (by decide) h).elim,fun hr _ h=>?_,fun hr _ _=>⟨h3,?_⟩,fun _ _ h=>absurd h1 h,fun _ _ h=>absurd h1 h,fun _ _ h=>absurd h1 h⟩
  ·grind
  ·unfold yD;rw[if_neg (by simp_all),if_pos h4,hs.reads,zHD hr.1 h5]
 | short h1 h2 h3 h4 h5 =>
  refine⟨hwr,fun _ h=>(k4 h1 (by decide) h).elim,fun hr _ h=>hno 14 h3 h4 (by decide),fun hr _ h=>absurd ((hall hr).1 h) h2,fun _ _ h=>absurd h1 h,fun _ _ h=>absurd h1 h,fun _ _ h=>absurd h1 h⟩
 | failed h1 h2 h3 h4 h5=>exact⟨hwr,fun _ _=>hno _ h3 h4 h2,fun _ h=>(k3 h1 (by decide) h).elim,fun _ h=>(k3 h1 (by decide) h).elim,fun _ h=>absurd h1 h,fun _ h=>absurd h1 h,fun _ h=>absurd h1 h⟩
 | wrote w d hp hb h3 h4 =>
  have hr:=zHB hp hb
  exact⟨hwr,fun h=>absurd h hr,fun h=>absurd h hr,fun h=>absurd h hr,fun h=>absurd h hr,fun h=>absurd h hr,fun h=>absurd h hr⟩
@[simp] theorem zAt:qZ Tryz.prog 12=true:=by kernel_rfl
@[simp] theorem zBo:z8 Tryz.prog (.func 12)=false:=q9 zAt
theorem zHP (l:List KnV) (p:Txt) (j:Nat) (h:j<l.length):zQ (l.take (j+1)) p=match zQ (l.take j) p with
  | some k=>some k
  | none=>if l[j].path=p then some l[j] else none:=by
 unfold zQ
 rw[List.take_succ_eq_append_getElem h,List.find?_append]
 cases (l.take j).find? (fun k=>decide (k.path=p))with
 | some k=>rfl
 | none =>
  simp only[Option.none_or,List.find?_cons,List.find?_nil]
  by_cases e:l[j].path=p<;>simp[e]
noncomputable def zHM (b:zGo):TV:=.tup [(.str,.s (if b.over=true then [] else b.asks)),(.bool,.b (!b.over)),(qD Tryz.prog 41,zI (yD b).1)]
theorem zGC {b:zGo} {o:zcy} (h:b.over=true∧(yD b).1=o):zHM b=.tup [(.str,.s []),(.bool,.b false),(qD Tryz.prog 41,zI o)]:=by
 unfold zHM;rw[h.1,h.2];rfl
theorem zGF {known:List KnV} {n:Nat} {b b':zGo} (h:goL known n b=some b') (ho:b.over=true):b'=b:=by
 cases n with
 | zero=>cases h
 | succ n=>rw[goL,if_pos ho]at h;exact(Option.some.inj h).symm
abbrev zI9:Cfg:=⟨fun _=>false,fun _=>false⟩
set_option maxHeartbeats 64000000 in
theorem zI8 (a:xW) (known:List KnV) (hab:zky a) (hval:∀x∈a.env,x.2.length≤1000000000) {cs:List CmdV} (hcv:j7 a.tool=.ok cs) (hce:DV a.tool=(0,0)) (hkd:∀k∈known,k.data.length≤65536) (hkl:known.length≤1000000)
  {b':zGo} (hgo:goL known 600 (ZR a.env a.outs (jI a) cs)=some b') :
  PC Tryz.prog 12 [.av UI (kT a),.av (.slice 57) (zL known)] (zHM b'):=by
 obtain⟨htl,hLl,_⟩:=zGQ hce
 obtain⟨_,i0,hi0⟩:=XU hcv
 have hfv:zh5 a.env cs (z7 a.tool):=⟨⟨i0,hi0⟩⟩
 have hK0:Z4 a.env cs a.outs (jI a) [] (ZR a.env a.outs (jI a) cs):=zbj hcv (by have:=hab.be;omega) hab.bev _ _
 have hwro:=fun l=>zHY a l hab.bo
 have halo:=fun fs=>zIh a fs hab.bo
 have hmyo:=fun p hp=>zcP a p hp (by have:=hab.bi;omega) (by have:=hab.ba;omega) hab.bo (fun x hx=>by have:=hab.bae x hx;omega)
 have hae:=YB a
 obtain⟨A,hA⟩:∃A,A=kT a:=⟨_,rfl⟩
 have hA5:A=.agg [.agg [.s a.pkg,.s a.name],.s a.tool,zS a.env,.sl .no (strs a.ins),.sl .no (strs a.asks),.sl .no (strs a.outs)]:=hA
 rw[←hA]at hae hwro halo hmyo ⊢
 obtain⟨V,hV⟩:∃V,V=zHM b':=⟨_,rfl⟩
 rw[←hV]
 refine zow Tryz.func12 zI9 fun imm0 w0=>?_
 simp (disch:=omega) [zz]
 refine AT.loopV (α:=List KnV × zGo × Nat × Option Nat) (fun x ver=>St.of [(1,.av (.slice 57) (zL known)),(2,.loc 2 []),(6,.loc 6 []),(7,.av (.slice 57) (.sl (zGA ver x.2.2.2) (x.1.map zH)))] [(2,(UI,A)),(6,(qD Tryz.prog 41,.agg [.i .i64 0,.i .i64 0,.sl .full [],.sl .full []]))] ver [])
  (fun x=>Z4 a.env cs a.outs (jI a) x.1 x.2.1∧goL known x.2.2.1 x.2.1=some b'∧∀k∈x.1,k.data.length≤65536) (fun x=>x.2.2.1) ([],ZR a.env a.outs (jI a) cs,600,none) ?_ ?_ ?_
 ·apply Le.of<;>simp[qU,qG,zX,zGA]<;>try omega
 ·exact⟨hK0,hgo,by simp⟩
 rintro⟨kn,b,n,o⟩ ver ⟨hK,hg,hkn⟩ KL hN hE
 simp only at hK hg hkn hN
 obtain⟨wr0,hS0⟩:=hK.s
 have hk5:=hS0.len
 have hsay:=hK.says hfv
 have hfar:=zI4 a.tool a.env kn hce ⟨by omega,hkn,by have:=hab.be;omega,hval⟩
 have hwl:=zHc a.env kn (z7 a.tool) st0
 have hfl:=zHG (hk:=by omega) (hd:=fun k hk=>Nat.le_trans (hkn k hk) (by decide)) (kn:=kn)
 obtain⟨f,hf⟩:∃f,f=Y9 a.env kn (z7 a.tool) st0:=⟨_,rfl⟩
 rw[←hf]at hsay hfar hwl
 have hwl2:f.wrote.length≤400:=by simp[st0]at hwl;omega
 have hw:=hwro f.wrote (by omega)
 have hkne:(AV.sl .no (kn.map zH)).er=AV.sl .no (kn.map zH):=YO kn
 have hee:=v8 a.env
 refine qM (cf:=zI9) laid mixed _ _ _ (by kernel_rfl) ?_
 simp (disch:=omega) [zz,hA5]
 refine qL hfar rfl rfl (by simp) (by simp[qS,TV.er,AV.er,zL,hee,AV.ers_eq,Function.comp_def,(vU _).1]) ?_
 simp (disch:=omega) [zz,jG]
 refine qL hw rfl rfl (by simp) (by simp[qS,TV.er,AV.er,AV.ers,hA5,hee,zjB]) ?_
 by_cases hr:zfw a.outs f.wrote
 rotate_left
 ·have hwd:wrD a.outs f.wrote=([],false):=by unfold wrD;rw[if_neg hr]
  obtain⟨h1,h2⟩:=hsay.wrong hr
  have hbb:=zGF hg h1
  have hv:=zGC ⟨h1,h2⟩
  rw[←hbb,←hV]at hv
  simp (disch:=omega) [zz,hwd]
  refine qL (hfl 14) rfl rfl (by simp) (by simp[qS,TV.er,AV.er,zL,AV.ers_eq,Function.comp_def,(vU _).1]) ?_
  simp (disch:=omega) [zz]
  refine hE _ _ (by simp) ?_
  simp (disch:=omega) [zz,Tryz.f12,hv]
 have hwd:wrD a.outs f.wrote=(zGq f.wrote,true):=by unfold wrD;rw[if_pos hr]
 have hfll:(zGq f.wrote).length≤400:=by rw[(zGG hr.1).1.length_eq,List.length_map];exact hwl2
 simp (disch:=omega) [zz,hwd]
 by_cases hk4:f.stop.kind=4
 ·obtain⟨h1,h2⟩:=hsay.fail hr hk4
  have hbb:=zGF hg h1
  have hv:=zGC ⟨h1,h2⟩
  rw[←hbb,←hV]at hv
  simp (disch:=omega) [zz,hk4]
  refine qL (hfl f.stop.why) rfl rfl (by simp) (by simp[qS,TV.er,AV.er,zL,AV.ers_eq,Function.comp_def,(vU _).1]) ?_
  simp (disch:=omega) [zz]
  refine hE _ _ (by simp) ?_
  simp (disch:=omega) [zz,Tryz.f12,hv]
 by_cases hk3:f.stop.kind=3
 ·have hal:=halo (zGq f.wrote) (by omega)
  simp (disch:=omega) [zz,hk3]
  refine qL hal rfl rfl (by simp) (by simp[qS,TV.er,AV.er,AV.ers,hA5,hee,zjB]) ?_
  cases had:zHx a.outs (zGq f.wrote)with
  | false =>
   obtain⟨h1,h2⟩:=hsay.short hr hk3 had
   have hbb:=zGF hg h1
   have hv:=zGC ⟨h1,h2⟩
   rw[←hbb,←hV]at hv
   simp (disch:=omega) [zz]
   refine qL (hfl 14) rfl rfl (by simp) (by simp[qS,TV.er,AV.er,zL,AV.ers_eq,Function.comp_def,(vU _).1]) ?_
   simp (disch:=omega) [zz]
   refine hE _ _ (by simp) ?_
   simp (disch:=omega) [zz,Tryz.f12,hv]
  | true =>
   obtain⟨h1,h2⟩:=hsay.ends hr hk3 had
   have hbb:=zGF hg h1
   have hv:=zGC ⟨h1,h2⟩
   rw[←hbb,←hV]at hv
   simp (disch:=omega) [zz]
   refine qL (hfl 0) rfl rfl (by simp) (by simp[qS,TV.er,AV.er,zL,AV.ers_eq,Function.comp_def,(vU _).1]) ?_
   simp (disch:=omega) [zz,zI]
   (repeat with_reducible refine om ?_)
   refine hE _ _ (by simp) ?_
   simp (disch:=omega) [zz,Tryz.f12,hv,zI,zU,qF,AV.ers_eq,Function.comp_def]
 have hpl:=hsay.one hr hk4 hk3
 have hmy:=hmyo f.stop.path (by omega)
 simp (disch:=omega) [zz,hk4,hk3]
 refine qL hmy rfl rfl (by simp) (by simp[qS,TV.er,AV.er,AV.ers,hA5,hee,zjB]) ?_
 cases hm:jI a f.stop.path with
 | false =>
  obtain⟨h1,h2⟩:=hsay.read hr hk4 hk3 hm
  have hbb:=zGF hg h1
  have hv:=zGC ⟨h1,h2⟩
  rw[←hbb,←hV]at hv
  simp (disch:=omega) [zz]
  refine qL (hfl 13) rfl rfl (by simp) (by simp[qS,TV.er,AV.er,zL,AV.ers_eq,Function.comp_def,(vU _).1]) ?_
  simp (disch:=omega) [zz]
  refine hE _ _ (by simp) ?_
  simp (disch:=omega) [zz,Tryz.f12,hv]
 | true =>
 obtain⟨h1,h2⟩:=hsay.waits hr hk4 hk3 hm
 obtain⟨p,hp⟩:∃p,p=f.stop.path:=⟨_,rfl⟩
 rw[←hp]at h2 hpl
 cases n with
 | zero=>cases hg
 | succ n =>
 rw[goL,if_neg (by rw[h1];decide),h2]at hg
 simp (disch:=omega) [zz,zL,←hp]
 refine AT.loopV (α:=Nat × Option Nat) (fun x ver=>St.of [(1,.av (.slice 57) (zL known)),(2,.loc 2 []),(6,.loc 6 []),(7,.av (.slice 57) (.sl (zGA ver x.2) ((kn++(zQ (known.take x.1) p).toList).map zH))),(8,.loc 8 []),(13,.av .bool (.b (zQ (known.take x.1) p).isSome)),(65,.av (.slice 57) (zL known)),(66,.av (.int .i64) (.i .i64 known.length)),(67,.av (.int .i64) (.i .i64 x.1))] [(2,(UI,A)),(6,(qD Tryz.prog 41,.agg [.i .i64 0,.i .i64 0,.sl .full [],.sl .full []])),(8,(DoT,jG f.stop))] ver [])
  (fun x=>x.1≤known.length) (fun x=>known.length-x.1) (0,o) ?_ ?_ ?_
 ·apply Le.of<;>simp[qU,qG,zX,zGA,zL,jG,hA5,zQ,←hp]<;>try omega
 ·simp
 rintro⟨j,o2⟩ ver2 hj KL2 hN2 hE2
 simp only at hj hN2
 refine qM (cf:=zI9) laid mixed _ _ _ (by kernel_rfl) ?_
 by_cases hjl:j<known.length
 ·have hjl':(j:Int)<known.length:=by omega
  have hgk:=KB zH known j hjl
  have hst:=zHP known p j hjl
  obtain⟨x,hx⟩:∃x,x=known[j]:=⟨_,rfl⟩
  rw[←hx]at hgk hst
  cases hfk:zQ (known.take j) p with
  | some k =>
   rw[hfk]at hst
   simp (disch:=omega) [zz,hjl',hjl,hgk,zL,zH,jG,←hp]
   refine hN2 _ (j+1,o2) ?_ (by simp only;omega) (by simp only;omega)
   apply Le.of<;>simp[qU,qG,zX,zGA,zL,jG,zH,hA5,hst,←hp]<;>try omega
  | none =>
   rw[hfk]at hst
   by_cases e:x.path=p
   ·simp only[if_pos e]at hst
    simp (disch:=omega) [zz,hjl',hjl,hgk,zL,zH,jG,e,←hp]
    refine zGz (by simp;omega) (by simp;omega) (by simp) (by simp) ?_
    intro ver3
    simp (disch:=omega) [zz]
    refine hN2 _ (j+1,some 83) ?_ (by simp only;omega) (by simp only;omega)
    apply Le.of<;>simp[qU,qG,zX,zGA,zL,jG,zH,hA5,hst,e,←hp]<;>try omega
   ·simp only[if_neg e]at hst
    simp (disch:=omega) [zz,hjl',hjl,hgk,zL,zH,jG,e,←hp]
    refine hN2 _ (j+1,o2) ?_ (by simp only;omega) (by simp only;omega)
    apply Le.of<;>simp[qU,qG,zX,zGA,zL,jG,zH,hA5,hst,←hp]<;>try omega
 have hjl':¬(j:Int)<known.length:=by omega
 rw[List.take_of_length_le (by omega)]
 cases hfk:zQ known p with
 | none =>
  rw[hfk]at hg
  have hbb:b'=b:=(Option.some.inj hg).symm
  have hv:V=.tup [(.str,.s p),(.bool,.b true),(qD Tryz.prog 41,.agg [.i .i64 0,.i .i64 0,.sl .no [],.sl .no []])]:=by
   rw[hV,hbb];unfold zHM;rw[h1,h2,KN h1];rfl
  simp (disch:=omega) [zz,hjl',hfk]
  refine hE2 _ _ (by simp) ?_
  simp (disch:=omega) [zz,jG,←hp]
  refine hE _ _ (by simp) ?_
  simp (disch:=omega) [zz,Tryz.f12,hv]
 | some k =>
  rw[hfk]at hg
  simp only at hg
  have hkm:k∈known:=List.mem_of_find?_eq_some hfk
  have hkp:k.path=p:=by have:=List.find?_some hfk;simpa using this
  obtain⟨_,hK2⟩:=hK.give k h1 (by rw[hkp,h2]) (fun _=>hkd k hkm)
  simp (disch:=omega) [zz,hjl',hfk]
  refine hE2 _ _ (by simp) ?_
  simp (disch:=omega) [zz]
  refine hN _ (kn++[k],(kB k b).2,n,o2) ?_ ⟨hK2,hg,fun y hy=>?_⟩ (by simp only;omega)
  ·apply Le.of<;>simp[qU,qG,zX,zGA,zL,hA5]<;>try omega
  ·rcases List.mem_append.1 hy with hy|hy
   ·exact hkn y hy
   ·rw[List.mem_singleton.1 hy];exact hkd k hkm
theorem znn {t:Txt} {cs:List CmdV} (hcs:j7 t=.ok cs) {env:List (Txt × Txt)} (h1:env.length≤1000000000) (h2:∀x∈env,x.2.length≤1000000000000000) {outs:List Txt} {may:Txt→Bool} {known:List KnV} (hd:∀k∈known,k.data.length≤65536) :
  ∃b',goL known 600 (ZR env outs may cs)=some b'∧Z4 env cs outs may [] (ZR env outs may cs)∧(b'.over=true∨zQ known b'.asks=none):=by
 obtain⟨b',kn',wr',g1,g2,g3,g4⟩:=zfT (env:=env) (outs:=outs) (may:=may) (y8 hcs) hd
 exact⟨b',g1,zbj hcs h1 h2 outs may,g4⟩
theorem Z4.outl {env:List (Txt × Txt)} {cs:List CmdV} {outs:List Txt} {may:Txt→Bool} {kn:List KnV} {b:zGo} (h:Z4 env cs outs may kn b) (ho:outs.length≤1000000):(yD b).1.outs.length≤1000000000∧(yD b).1.reads.length≤1000000000:=by
 have h1:=h.rl
 have h2:=h.wl ho
 unfold yD
 split
 ·simp
 split
 ·refine⟨?_,by simp only;omega⟩
  simp only[ZH,List.length_map,ZO];omega
 ·exact⟨by simp,by simp only;omega⟩
end Go.Proofs.YtooipdkilgpojaaGreatDoor
end
section
set_option maxRecDepth 100000
namespace Go.Proofs.YtooipdkilgpojaaGreatDoor
open Go Go.Ab
open Classical
variable [Sel] [SelPow] [SelMax]
set_option maxHeartbeats 32000000 in
theorem zHN (a:xW) (known:List KnV) (ha:vA a≤1000000000) (hk:knW known≤1000000000) :
  PC Tryz.prog 3 [.av UI (kT a),.av (.slice 57) (zL known)] (.av .bool (.b true)):=by
 have hkns:(zL known).er=zL known:=YO known
 have hae:=YB a
 have hgr:=d8 a ha
 have hmn:=P1 known hk
 have hgoo:=zI8 a known
 have hee:=v8 a.env
 obtain⟨A,hA⟩:∃A,A=kT a:=⟨_,rfl⟩
 have hA5:A=.agg [.agg [.s a.pkg,.s a.name],.s a.tool,zS a.env,.sl .no (strs a.ins),.sl .no (strs a.asks),.sl .no (strs a.outs)]:=hA
 rw[←hA]at hgr hae hgoo ⊢
 refine zow Tryz.func3 cf0 fun imm0 w0=>?_
 simp (disch:=omega) [zz]
 refine zcv VZ ?_
 simp (disch:=omega) [zz]
 refine qL hgr rfl rfl (by simp) (by simp[qS,TV.er,hae]) ?_
 by_cases hg:2000<vA a
 ·simp (disch:=omega) [zz,hg,Tryz.f3]
 simp (disch:=omega) [zz,hg]
 refine qL hmn rfl rfl (by simp) (by simp[qS,TV.er,hkns]) ?_
 by_cases hm:5000<knW known
 ·simp (disch:=omega) [zz,hm,Tryz.f3]
 simp (disch:=omega) [zz,hm]
 have hab:=zbN (a:=a) (by omega)
 obtain⟨hkd,hkl⟩:=zgi (l:=known) (by omega)
 have hnew:=DZ a hab
 have hck:=zy8 a.tool (by have:=hab.bt;omega)
 unfold zes at hnew
 rw[←hA]at hnew
 rcases ze5 a.tool with⟨cs,hcv,hce⟩|⟨e,n,hcv,hce,hne⟩
 rotate_left
 ·rw[hcv]at hnew
  rw[hce]at hck
  refine jP (R:=fun r H'=>r=.tup [(.ptr,.nilptr),(.int .i64,.i .i64 e)]∧H'=[]) rfl (by simp[qQ]) (by simp) ?_ ?_
  ·simpa[TV.er,hae,q8.er_nil]using hnew
  rintro r H' ⟨rfl,rfl⟩
  simp (disch:=omega) [zz,hA5]
  refine zcv hck ?_
  simp (disch:=omega) [zz,hne,Tryz.f3]
 rw[hcv]at hnew
 rw[hce]at hck
 refine jP (R:=fun r H'=>∃B,r=.tup [(.ptr,.ptr B KD []),(.int .i64,.i .i64 0)]∧jJ B (ZR a.env a.outs (jI a) cs) H') rfl (by simp[qQ]) (by simp) ?_ ?_
 ·simpa[TV.er,hae,q8.er_nil]using hnew
 rintro r H ⟨B,rfl,hH⟩
 obtain⟨b',hgo,hbk,hstop⟩:=znn hcv (env:=a.env) (by have:=hab.be;omega) hab.bev (outs:=a.outs) (may:=jI a) hkd
 have hlg:=ZZ B hH hbk hab.bo known hkd (by omega) hgo
 have hrg:=hgoo hab (fun x hx=>by have:=zmB hx;unfold vA at hg;omega) hcv hce hkd (by omega) hgo
 have hHe:=hH.er
 simp (disch:=omega) [zz,hA5]
 refine zcv hck ?_
 simp (disch:=omega) [zz]
 refine qE (R:=fun y H'=>y=yS b'∧jJ B b' H'∧∃kn',Z4 a.env cs a.outs (jI a) kn' b') H [] (by simp) rfl (by simp[qQ]) (by simp) ?_ ?_
 ·rw[hHe]
  simpa[TV.er,AV.er,hkns]using hlg
 rintro y H1 ⟨rfl,hH1,kn',hk1⟩ _
 refine⟨H1,by simpa using HSub.refl _,?_⟩
 obtain⟨bo,br⟩:=hk1.outl hab.bo
 obtain⟨o,ho⟩:∃o,o=(yD b').1:=⟨_,rfl⟩
 obtain⟨q,hq⟩:∃q,q=(if b'.over=true then [] else b'.asks):=⟨_,rfl⟩
 obtain⟨w,hw⟩:∃w,w=!b'.over:=⟨_,rfl⟩
 have e1:yS b'=.tup [(.str,.s q),(.bool,.b w),(qD Tryz.prog 41,zI o),(.bool,.b true)]:=by unfold yS;rw[ho,hq,hw]
 have e2:zHM b'=.tup [(.str,.s q),(.bool,.b w),(qD Tryz.prog 41,zI o)]:=by unfold zHM;rw[ho,hq,hw]
 rw[←ho]at bo br
 have hoe:=KO o
 have hss:WJ o o=true:=u5.2 rfl
 have hso:=VG o o bo br bo br
 rw[hss]at hso
 rw[e1]
 rw[e2]at hrg
 simp (disch:=omega) [zz]
 refine qL hrg rfl rfl (by simp) (by simp[qS,TV.er,AV.er,AV.ers,hA5,hee,zjB,hkns]) ?_
 simp (disch:=omega) [zz]
 refine qL hso rfl rfl (by simp) (by simp[qS,TV.er,hoe]) ?_
 simp (disch:=omega) [zz,Tryz.f3]
end Go.Proofs.YtooipdkilgpojaaGreatDoor
end
section
set_option maxRecDepth 100000
namespace Go.Proofs.YtooipdkilgpojaaGreatDoor
open Go Go.Ab
open Classical
variable [Sel]
theorem DU {α:Type} {f:α→AV} {q:AV→Prop} {r:α→Prop} {xs:List AV} (h:∀y∈xs,q y) (hd:∀y,q y→∃a,y=f a∧r a):∃l:List α,xs=l.map f∧∀a∈l,r a:=by
 induction xs with
 | nil=>exact⟨[],rfl,by simp⟩
 | cons y ys ih =>
  obtain⟨a,ha,hr⟩:=hd y (h y (by simp))
  obtain⟨l,hl,hl2⟩:=ih fun z hz=>h z (by simp[hz])
  exact⟨a::l,by simp[ha,hl],by simpa using⟨hr,hl2⟩⟩
end Go.Proofs.YtooipdkilgpojaaGreatDoor
end
