/- ### composite values. No condition. -/
import Derived.Test.YtfkcpballfhddaaGreatDoorAbGToM
import Derived.OrdersIn
import Derived.RangeFuncSeq
import Derived.Lib.AppendZerosOnto
import Derived.Lib.Overlaps
import Derived.Lib.Builder
set_option linter.unusedSimpArgs false
set_option linter.unusedVariables false
set_option linter.unusedSectionVars false
section
namespace Go.Ab
open Go
open Classical
variable [Sel]
theorem zn5 {P:Program} (hl:laidOutB P=true) {g:Gh} {w:World} (hi:ZI g w) {T e:TypeId} (hT:q9 P T=.slice e) {t:Tok} {ys:List AV} {v:Value} (hv:VV P g w (.slice e) (.sl t ys) v) :
  ∃news,Src P (P.cellsOf e) T v ys.length news w/\VL P g w e ys news:=by
 obtain⟨u,hu,hm⟩:=qO hT (by simp)
 simp only[zP]at hm;subst hm
 obtain⟨a,cap,rfl,hcap,hx,_⟩:=W1 hv
 rcases hx with rfl|⟨b,off,rfl,hle,hvl⟩
 ·refine⟨[],⟨.inl ⟨e,hu⟩,fun _=>rfl,?_,?_,by simp,by simp⟩,by simp[VL]⟩
  ·cases a<;>simp[Builtin.firstCells,loadCells,loadCellsFrom]
  ·cases a<;>simp[Builtin.firstCells,loadCells,loadCellsFrom]
 ·have hlen:=ZD hl ys e _ hvl
  refine⟨_,Src.ofSlice w hu ⟨b,off,none⟩ ys.length cap _ hlen ?_ (u6 _ _ _ hvl),hvl⟩
  intro j u hj
  have hj':j<ys.length*P.cellsOf e:=by grind
  obtain⟨cs,E,fz,hb,hs⟩:=hi b (by omega)
  rw[wA,YL hb]
  simp only[zU,hb,List.getElem?_take,List.getElem?_drop]at hj
  simp_all

theorem gI {P:Program} (w:World) (t tx ty e:TypeId) (i:TypeInfo) (ht:P.underlying t=some (.slice e)) (hi:P.info? e=some i) (b sLen sCap:Nat) (x:Value) (n:Nat) (news:List Value) (hs:Src P i.size tx x n news w)
  {cur:Array Value} (hb:kD w b cur) (hroom:sLen+n<=sCap) (hfit:sLen*i.size+news.length<=cur.size) :
  (Builtin.append_ #[t,tx] ty #[.slice (some ⟨b,0,none⟩) sLen sCap,x]).run P w=.ok (.slice (some ⟨b,0,none⟩) (sLen+n) sCap)
   (w.setRow b (cur.toList.take (sLen*i.size)++news++cur.toList.drop (sLen*i.size+news.length)).toArray):=by
 obtain⟨E,fz,h1,h2⟩:=hb
 have hst:=y3 (P:=P) b (sLen*i.size) E fz news 0 cur w h1 (h2.1.imp_right And.left) (by omega) hs.one
 simp only[Nat.add_zero]at hst
 rcases hs.kind with⟨e',hk⟩|hk<;>simp[Builtin.append_,run_underlying ht,run_underlying hk,sizeOf,typeInfo,hi,hs.len,hroom,hs.cells,Addr.add_lit,hst]

theorem yJ {P:Program} {g:Gh} {w:World} {e:TypeId}:∀ {xs ys:List AV} {c d:List Value},VL P g w e xs c->VL P g w e ys d->VL P g w e (xs++ys) (c++d)
 | [],ys,c,d,h1,h2=>by simp_all[VL]
 | x::xs,ys,c,d,h1,h2=>by
  simp only[VL,List.cons_append]at h1 |-
  obtain⟨c1,c2,rfl,h3,h4⟩:=h1
  exact⟨c1,c2++d,by simp,h3,yJ h4 h2⟩

def y4 (P:Program) (s:St) (d:Nat) (e:TypeId) (t:Tok) (xs ys:List AV) (K:St->Prop):Prop :=
 (2*(xs.length+ys.length))*P.bytesOf e<=281474976710656/\xs.length+ys.length<=4611686018427387904/\zB P e=true/\k7 P e=true/\
 match t with
 | .full=>K (({ s with ver:=upd s.ver d (s.ver d+1) }:St).put (some d) (.av (.slice e) (.sl (.own d (s.ver d+1)) (xs++ys))))
 | .own k v=>s.ver k=v/\K (({ s with ver:=upd (upd s.ver k (s.ver k+1)) d (s.ver d+1) }:St).put (some d) (.av (.slice e) (.sl (.own d (s.ver d+1)) (xs++ys))))
 | .no=>False

theorem zF.bump {c:Ctx} {s:St} {a:Act} {w:World} {g:Gh} {β:Nat->Nat} (h:zF c s a w g β) {ver':Nat->Nat} (hv:∀k,s.ver k<=ver' k):zF c { s with ver:=ver' } a w g β:=by
 have hsame:∀k t,g.γ k (ver' k)=some t->g.γ k (s.ver k)=some t:=fun k t e=>by
  rcases Nat.lt_or_ge (s.ver k) (ver' k)with h1|h1
  ·rw[h.toknew k _ h1]at e;cases e
  grind
 exact { h with
  locs:=fun k d x e=>{ h.locs k d x e with }
  toks:=fun k t e=>{ h.toks k t (hsame k t e)with }
  tokd:=fun k k' t t' e e'=>h.tokd k k' t t' (hsame k t e) (hsame k' t' e')
  toknew:=fun k v hkv=>h.toknew k v (Nat.lt_of_le_of_lt (hv k) hkv) }

theorem zF.token {c:Ctx} {s:St} {a:Act} {w:World} {g:Gh} {β:Nat->Nat} (h:zF c s a w g β) (d v:Nat) (hd:g.γ d v=none) (hv:s.ver d<=v) (t:zk6)
  (hb:zhr c s w g β t) (hother:∀k t',k≠d->g.γ k (s.ver k)=some t'->t'.b≠t.b) :
  zF c { s with ver:=upd s.ver d v } a w { g with γ:=fun k u=>if k=d/\u=v then some t else g.γ k u } β:=by
 have hle:g.le { g with γ:=fun k u=>if k=d/\u=v then some t else g.γ k u }:=by
  refine⟨fun _=>Nat.le_refl _,fun k u t' e=>?_⟩
  grind
 have hi:=h.rep.imm
 have hk:jP g w w:=fun b cs E fz _ hb=>⟨cs,E,fz,hb,rfl,fun _ _=>rfl⟩
 have hcase:∀k t',(if k=d/\(upd s.ver d v) k=v then some t else g.γ k ((upd s.ver d v) k))=some t'->(k=d/\t'=t)\/(k≠d/\g.γ k (s.ver k)=some t'):=by
  intro k t' e
  by_cases hkd:k=d
  ·simp_all[upd]
  simp_all[upd]
 exact {
  defers:=h.defers,size:=h.size
  env:=fun t'=>y8 hle hi hk (fun k d' x e=>⟨x,e,rfl⟩) (h.env t')
  locs:=fun k d' x e=>by
   have L:=h.locs k d' x e
   obtain⟨cs,h1,h2⟩:=L.block
   exact⟨L.base,L.noH,L.imm,cs,h1,jE hle hi hk x d' _ h2⟩
  inj:=h.inj
  rep:=⟨h.rep.imm,h.rep.nodup,fun b o ho=>by
   have:=h.rep.obj b o ho
   cases o with
   | var d' x=>obtain⟨h1,cs,h2,h3⟩:=this;exact⟨h1,cs,h2,jE hle hi hk x d' _ h3⟩
   | map k e es=>obtain⟨h1,en,ck,h2,h3⟩:=this;exact⟨h1,en,ck,h2,yI hle hi hk h3⟩
   | raw r i0 w0=>assumption,h.rep.tab.keep hle hi hk⟩
  toks:=fun k t' e=>by
   rcases hcase k t' e with⟨_,rfl⟩|⟨_,e'⟩
   ·exact { hb with }
   ·exact { h.toks k t' e' with }
  tokd:=fun k k' t1 t2 e1 e2 hne=>by
   rcases hcase k t1 e1 with⟨rfl,rfl⟩|⟨h1,e1'⟩
   ·grind
   ·rcases hcase k' t2 e2 with⟨rfl,rfl⟩|⟨h2,e2'⟩
    ·grind
    ·exact h.tokd k k' t1 t2 e1' e2' hne
  toknew:=fun k u hku=>by
   show (if k=d/\u=v then some t else g.γ k u)=none
   by_cases hkd:k=d
   ·subst hkd
    simp only[upd,if_true]at hku
    rw[if_neg (by omega)]
    exact h.toknew k u (by omega)
   ·rw[if_neg (by simp[hkd])]
    simp only[upd,hkd,if_false]at hku
    exact h.toknew k u hku
  step:=h.step }
theorem zF.extend {c:Ctx} {s:St} {a:Act} {w:World} {g:Gh} {β:Nat->Nat} (h:zF c s a w g β) {k:Nat} {t:zk6} (hk:g.γ k (s.ver k)=some t) {cur cs:Array Value} (hc:kD w t.b cur) (hs:cs.size=cur.size)
  (hpre:∀o,o<g.imm t.b->cs[o]?=cur[o]?) {m:Nat} (hm:g.imm t.b<=m) (hm2:m<=cs.size) :
  zF c { s with ver:=upd s.ver k (s.ver k+1) } a (w.setRow t.b cs) { g with imm:=upd g.imm t.b m } β:=by
 have G:=h.toks k t hk
 have hi:=h.rep.imm
 have himm:∀b,b≠t.b->upd g.imm t.b m b=g.imm b:=fun b hb=>by simp[upd,hb]
 have hle:g.le { g with imm:=upd g.imm t.b m }:=by
  refine⟨fun b=>?_,fun _ _ _ e=>e⟩
  simp only[upd];grind
 obtain⟨E,fz,hc1,hc2⟩:=hc
 have hik:jP g w (w.setRow t.b cs):=by
  intro b cs' E' fz' h0 h1
  by_cases hb:b=t.b
  ·subst hb
   rw[hc1]at h1;cases h1
   exact⟨cs,E,fz,setRow_heap w t.b cur cs E fz hc1,hs,hpre⟩
  simp_all[setRow_other]
 exact {
  defers:=h.defers.setRow (Q:=fun _=>True) ⟨E,fz,hc1,hc2⟩,size:=h.size
  env:=fun t'=>y8 hle hi hik (fun j d x e=>⟨x,e,rfl⟩) (h.env t')
  locs:=fun j d x e=>by
   have L:=h.locs j d x e
   obtain⟨cs',h1,h2⟩:=L.block
   have hne:β j≠t.b:=G.noLoc j (by rw[e];simp)
   exact⟨L.base,L.noH,(himm _ hne).trans L.imm,cs',k6 h1 hne,jE hle hi hik x d _ h2⟩
  inj:=h.inj
  rep:=⟨fun b hb=>by
    simp only[upd]at hb |-
    by_cases e:b=t.b
    ·rw[if_pos e];subst e
     exact⟨cs,E,fz,setRow_heap w t.b cur cs E fz hc1,hm2⟩
    ·rw[if_neg e]at hb |-
     obtain⟨cs',E',fz',h1,h2⟩:=hi b hb
     simp_all[setRow_other],h.rep.nodup,fun b o ho=>by
    have hne:b≠t.b:=fun e=>G.noH (e▸List.mem_map.2 ⟨_,ho,rfl⟩)
    have:=h.rep.obj b o ho
    cases o with
    | var d x=>obtain⟨h1,cs',h2,h3⟩:=this;exact⟨(himm _ hne).trans h1,cs',k6 h2 hne,jE hle hi hik x d _ h3⟩
    | map k e es=>obtain⟨h1,en,ck,h2,h3⟩:=this;exact⟨(himm _ hne).trans h1,en,ck,(setRow_other w t.b b cs hne).trans h2,yI hle hi hik h3⟩
    | raw r i0 w0=>obtain⟨h1,h2,h3⟩:=this;exact⟨(himm _ hne).trans h1,(setRow_other w t.b b cs hne).trans h2,yE h3 hle hik⟩,h.rep.tab.keep hle hi hik⟩
  toks:=fun j t' e=>by
   by_cases hj:j=k
   ·subst hj
    simp only[upd,if_true]at e
    rw[h.toknew j _ (Nat.lt_succ_self _)]at e;cases e
   ·simp only[upd,hj,if_false]at e
    have G':=h.toks j t' e
    have hne:t'.b≠t.b:=h.tokd j k t' t e hk hj
    obtain⟨cs',h1,h2⟩:=G'.block
    exact⟨G'.base,G'.noH,G'.noLoc,(himm _ hne).trans G'.imm,cs',k6 h1 hne,h2⟩
  tokd:=fun i j t1 t2 e1 e2 hne=>by
   have f:∀i t',g.γ i (upd s.ver k (s.ver k+1) i)=some t'->g.γ i (s.ver i)=some t':=by
    intro i t' e
    by_cases hi':i=k
    ·subst hi';simp only[upd,if_true]at e;rw[h.toknew i _ (Nat.lt_succ_self _)]at e;cases e
    simp_all[upd]
   exact h.tokd i j t1 t2 (f i t1 e1) (f j t2 e2) hne
  toknew:=fun j v hv=>by
   by_cases hj:j=k
   ·subst hj;simp only[upd,if_true]at hv;exact h.toknew j v (by omega)
   ·simp only[upd,hj,if_false]at hv;exact h.toknew j v hv
  step:={
   os:=h.step.os,tape:=h.step.tape,output:=h.step.output,drawn:=h.step.drawn
   size:=by rw[vW];exact h.step.size
   frame:=fun b hb hn=>by
    have hne:b≠t.b:=fun e=>by have:=G.base;omega
    rw[setRow_other w t.b b cs hne]
    exact⟨(h.step.frame b hb hn).1,(himm b hne).trans (h.step.frame b hb hn).2⟩
   imm:=fun b=>Nat.le_trans (h.step.imm b) (hle.1 b)
   kept:=fun b cs' E' fz' h0 h1=>by
    obtain⟨cs2,E2,fz2,h3,h4⟩:=h.step.kept b cs' E' fz' h0 h1
    have hne:b≠t.b:=fun e=>by have:=G.base;simp_all
    simp_all[setRow_other]
   dom:=h.step.dom } }

theorem zF.named {c:Ctx} {s:St} {a:Act} {w:World} {g:Gh} {β:Nat->Nat} (h:zF c s a w g β) {d v:Nat} (hd:d<c.n) (hnone:g.γ d v=none) (hv:s.ver d<=v) {b cap:Nat} {e:TypeId} {zs:List AV}
  (G:zhr c s w g β ⟨b,cap,zs.length,e⟩) (hother:∀k t',k≠d->g.γ k (s.ver k)=some t'->t'.b≠b) (hcap:zs.length<=cap) (hvl:VL c.P g w e zs (zU w b 0 (zs.length*c.P.cellsOf e))) :
  ∃g',zF c (({ s with ver:=upd s.ver d v }:St).put (some d) (.av (.slice e) (.sl (.own d v) zs))) (a.put (some d) (.slice (some ⟨b,0,none⟩) zs.length cap)) w g' β:=by
 have h2:=h.token d v hnone hv ⟨b,cap,zs.length,e⟩ G hother
 have hle:g.le { g with γ:=fun k u=>if k=d/\u=v then some ⟨b,cap,zs.length,e⟩ else g.γ k u }:=by
  refine⟨fun _=>Nat.le_refl _,fun k u t' e'=>?_⟩
  grind
 refine⟨_,h2.put (by simp_all) ?_⟩
 have himm:=G.imm
 simp only at himm
 have hkk:jP g w w:=fun b cs E fz _ hb=>⟨cs,E,fz,hb,rfl,fun _ _=>rfl⟩
 have hr:gR { g with γ:=fun k u=>if k=d/\u=v then some (⟨b,cap,zs.length,e⟩:zk6) else g.γ k u } (.own d v) (some ⟨b,0,none⟩) zs.length cap e:=by
  right
  simp
 have hvv:=vG (P:=c.P) (w:=w) (xs:=zs) (a:=some ⟨b,0,none⟩) hcap (.inr ⟨b,0,rfl,by simp_all,JS hle h.rep.imm hkk _ _ _ hvl⟩) hr
 exact hvv

theorem zeC {c:Ctx} (hl:laidOutB c.P=true) {s:St} {a:Act} {w:World} {g:Gh} {β:Nat->Nat} (h:zF c s a w g β) {T TX ty e:TypeId} (hT:q9 c.P T=.slice e) {t:Tok} {xs ys:List AV} {vx vy:Value}
  (hx:VV c.P g w (.slice e) (.sl t xs) vx) {news:List Value} (hy:Src c.P (c.P.cellsOf e) TX vy ys.length news w) (hyv:VL c.P g w e ys news) {d:Nat} (hd:d<c.n) {K:St->Prop} (hk:y4 c.P s d e t xs ys K) :
  ∃u w' s' g',(Builtin.append_ #[T,TX] ty #[vx,vy]).run c.P w=.ok u w'/\K s'/\zF c s' (a.put (some d) u) w' g' β:=by
 obtain⟨hb1,hb2,hz,hp,hk⟩:=hk
 obtain⟨u,hu,hm⟩:=qO hT (by simp)
 simp only[zP]at hm;subst hm
 obtain⟨i,hi⟩:=jV hp
 have hisz:i.size=c.P.cellsOf e:=by simp[Program.cellsOf,hi]
 have hiby:i.bytes=c.P.bytesOf e:=by simp[Program.bytesOf,hi]
 obtain⟨ax,cap,rfl,hcap,hxs,htok⟩:=W1 hx
 have hpos:0<c.P.cellsOf e:=by simp_all[k7]
 have hnl:news.length=ys.length*c.P.cellsOf e:=hy.newsLen
 obtain⟨ver',hver,hverd,hK,hcase⟩:∃ver',(∀k,s.ver k<=ver' k)/\ver' d=s.ver d+1/\K (({ s with ver:=ver' }:St).put (some d) (.av (.slice e) (.sl (.own d (s.ver d+1)) (xs++ys))))/\
   (cap=xs.length\/∃k b,ax=some ⟨b,0,none⟩/\g.γ k (s.ver k)=some ⟨b,cap,xs.length,e⟩/\ver'=upd (upd s.ver k (s.ver k+1)) d (s.ver d+1)):=by
  cases t with
  | no=>exact hk.elim
  | full=>exact⟨_,fun k=>by grind [upd],by simp[upd],hk,.inl htok⟩
  | own k v =>
   obtain⟨rfl,hk⟩:=hk
   refine⟨_,fun j=>by grind [upd],by simp[upd],hk,?_⟩
   rcases htok with h1|⟨b,h1,h2⟩
   ·exact .inl h1
   grind
 by_cases hroom:xs.length+ys.length<=cap
 ·rcases hcase with hfull|⟨k,b,rfl,hγ,hver'⟩
  ·have hy0:ys=[]:=List.length_eq_zero_iff.1 (by omega)
   subst hy0
   have hr:(Builtin.append_ #[T,TX] ty #[.slice ax xs.length cap,vy]).run c.P w=.ok (.slice ax xs.length cap) w:=by
    have hn0:news=[]:=by simp_all
    subst hn0
    have hc:=hy.cells
    have hle:=hy.len
    simp only[List.length_nil]at hc hle
    rcases hy.kind with⟨e',hk'⟩|hk'<;>cases ax <;>
     simp[Builtin.append_,run_underlying hu,run_underlying hk',sizeOf,typeInfo,hi,hle,hcap,hisz,hc,storeCells]
   refine⟨_,w,_,g,hr,hK,(h.bump hver).put (by simp_all) ?_⟩
   have hr':gR g (.own d (s.ver d+1)) ax (xs++[]).length cap e:=by left;simp_all
   have:=vG (P:=c.P) (w:=w) (xs:=xs++[]) (a:=ax) (by simp_all) (by simp_all) hr'
   rw[List.append_nil]at this |-
   exact this
  ·have G:=h.toks k _ hγ
   obtain⟨cur,hcur,hcsz⟩:=G.block
   have himm:=G.imm
   simp only at hcur hcsz himm
   have hmul:(xs.length+ys.length)*c.P.cellsOf e<=cap*c.P.cellsOf e:=Nat.mul_le_mul_right _ hroom
   rw[Nat.add_mul]at hmul
   have hr:=gI w T TX ty e i hu hi b xs.length cap vy ys.length news (by simp_all) hcur hroom (by simp_all)
   rw[hisz]at hr
   generalize hcs:(cur.toList.take (xs.length*c.P.cellsOf e)++news++cur.toList.drop (xs.length*c.P.cellsOf e+news.length)).toArray=cs at hr
   have hcssz:cs.size=cur.size:=by grind
   have hpre:∀o,o<g.imm b->cs[o]?=cur[o]?:=by
    grind
   have h1:=h.extend hγ hcur hcssz hpre (m:=(xs.length+ys.length)*c.P.cellsOf e) (by grind) (by grind)
   simp only at h1
   have hcur':=hcur
   obtain⟨E,fz,e1,_⟩:=hcur'
   have hnewcells:zU (w.setRow b cs) b 0 ((xs++ys).length*c.P.cellsOf e)=cur.toList.take (xs.length*c.P.cellsOf e)++news:=by
    simp only[zU,setRow_heap w b cur cs E fz e1,List.drop_zero]
    rw[<-hcs]
    simp only[List.length_append]
    grind [List.take_of_length_le]
   have holdcells:VL c.P g w e xs (cur.toList.take (xs.length*c.P.cellsOf e)):=by
    rcases hxs with rfl|⟨b',off',hb',hle',hv'⟩
    ·simp[VL]
    grind [zU]
   have hle:g.le { g with imm:=upd g.imm b ((xs.length+ys.length)*c.P.cellsOf e) }:=by
    refine⟨fun b'=>?_,fun _ _ _ e=>e⟩
    simp only[upd];grind
   have hkept:jP g w (w.setRow b cs):=by
    intro b' cs' E' fz' h0 h1'
    by_cases hb':b'=b
    ·subst hb'
     rw[e1]at h1';cases h1'
     exact⟨cs,E,fz,setRow_heap w b' cur cs E fz e1,by rw[hcssz],hpre⟩
    simp_all[setRow_other]
   have hvl:VL c.P { g with imm:=upd g.imm b ((xs.length+ys.length)*c.P.cellsOf e) } (w.setRow b cs) e (xs++ys) (zU (w.setRow b cs) b 0 ((xs++ys).length*c.P.cellsOf e)):=by
    rw[hnewcells]
    exact yJ (JS hle h.rep.imm hkept _ _ _ holdcells) (JS hle h.rep.imm hkept _ _ _ hyv)
   obtain⟨g',hg'⟩:=h1.named (d:=d) (v:=s.ver d+1) (b:=b) (cap:=cap) (e:=e) (zs:=xs++ys) hd (h.toknew d _ (Nat.lt_succ_self _)) (by grind [upd])
    ⟨G.base,G.noH,G.noLoc,by simp[upd],cs,x9 hcur hcssz,by simp_all⟩
    (fun j t' hj e'=>by
     simp only[upd]at e'
     split at e'
     ·rename_i hjk;subst hjk;rw[h.toknew j _ (Nat.lt_succ_self _)]at e';cases e'
     ·rename_i hjk;exact h.tokd j k t' _ e' hγ hjk) (by simp_all) hvl
   grind
 ·-- a new row
  have hgrow:cap<xs.length+ys.length:=by omega
  have hd1:=h.drew (w.drawn+1)
  have hyD:Src c.P i.size TX vy ys.length news w:=by simp_all
  have hold:∃olds,VL c.P g w e xs olds/\(Builtin.firstCells i.size xs.length (.slice ax xs.length cap)).run c.P w.drew=.ok olds.toArray w.drew:=by
   obtain⟨olds,ho1,ho2⟩:=zn5 hl h.rep.imm hT hx
   exact⟨olds,ho2,by rw[hisz];exact ho1.cellsD⟩
  obtain⟨olds,hov,hor⟩:=hold
  obtain⟨z,hzr,hzv⟩:=K9 hz
  have hiz:i.zero=some z:=by
   have:=hzr w
   unfold zeroValue typeInfo at this
   simp[hi]at this
   cases hiz:i.zero with
   | none=>simp_all
   | some z'=>simp_all
  have hfit:Builtin.nextslicecap (xs.length+ys.length) cap*i.bytes<=281474976710656:=by
   rw[hiby]
   exact Nat.le_trans (Nat.mul_le_mul_right _ (nextslicecap_le hgrow)) hb1
  have hr:=run_append_grow_src w T TX ty e i z hu hi hiz ax xs.length cap olds hor vy ys.length news hyD hgrow (by omega) hfit
  have hgc:xs.length+ys.length<=grownCap w (xs.length+ys.length) cap e:=by
   simp[grownCap,Question.cut]
  generalize grownCap w (xs.length+ys.length) cap e=nc at hr hgc
  have holen:=ZD hl xs e _ hov
  have hzsz:z.cells.size=c.P.cellsOf e:=by
   have hne:=y5 hl _ _ _ (hzv g w).2
   rw[<-Array.length_toList,wN hl _ _ _ hne (hzv g w).2,jG hl hne]
  generalize hrow:((olds++news).toArray++Builtin.zeroCells z.cells (nc-(xs.length+ys.length)))=row at hr
  have hrsz:row.size=nc*c.P.cellsOf e:=by
   rw[<-hrow]
   simp only[Array.size_append,List.size_toArray,List.length_append,holen,hnl,size_zeroCells,hzsz]
   rw[<-Nat.add_mul,<-Nat.add_mul];simp_all
  have hneed:(xs.length+ys.length)*c.P.cellsOf e<=row.size:=by grind
  have h1:=(hd1.bump (ver':=ver') hver).push (.cells row e (0,0)) ((xs.length+ys.length)*c.P.cellsOf e) (fun _=>⟨row,e,(0,0),rfl,hneed⟩)
  have hnewcells:zU (World.push' { w with drawn:=w.drawn+1 } (.cells row e (0,0))) w.heap.size 0 ((xs++ys).length*c.P.cellsOf e)=olds++news:=by
   grind [Z0,zU,List.take_of_length_le]
  have hle:g.le { g with imm:=upd g.imm w.heap.size ((xs.length+ys.length)*c.P.cellsOf e) }:=by
   refine⟨fun b'=>?_,fun _ _ _ e=>e⟩
   simp only[upd];split
   ·rename_i e';rw[e',ZJ h.rep.imm (Nat.le_refl _)];omega
   omega
  have hkept:jP g w (World.push' { w with drawn:=w.drawn+1 } (.cells row e (0,0))):=fun b cs E fz _ hb=>⟨cs,E,fz,YR (w:={ w with drawn:=w.drawn+1 }) hb,rfl,fun _ _=>rfl⟩
  have hvl:VL c.P { g with imm:=upd g.imm w.heap.size ((xs.length+ys.length)*c.P.cellsOf e) } (World.push' { w with drawn:=w.drawn+1 } (.cells row e (0,0))) e (xs++ys) (zU (World.push' { w with drawn:=w.drawn+1 } (.cells row e (0,0))) w.heap.size 0 ((xs++ys).length*c.P.cellsOf e)):=by
   rw[hnewcells]
   exact yJ (JS hle h.rep.imm hkept _ _ _ hov) (JS hle h.rep.imm hkept _ _ _ hyv)
  obtain⟨g',hg'⟩:=h1.named (d:=d) (v:=s.ver d+1) (b:=w.heap.size) (cap:=nc) (e:=e) (zs:=xs++ys) hd (h.toknew d _ (Nat.lt_succ_self _)) (by simp_all)
   ⟨h.step.size,fun hin=>absurd (zhF h.rep hin) (Nat.lt_irrefl _),fun j hj=>by
    cases e':s.loc j with
    | none=>simp_all
    | some dy=>obtain⟨d',y⟩:=dy;obtain⟨cs',h2,_⟩:=(h.locs j d' y e').block;exact Nat.ne_of_lt (kR h2),by simp[upd],row,⟨e,(0,0),Z0 { w with drawn:=w.drawn+1 } _,.inl (Nat.le_refl _),trivial⟩,hrsz⟩
   (fun j t' hj e'=>by
    have e2:g.γ j (s.ver j)=some t':=by
     rcases Nat.lt_or_ge (s.ver j) (ver' j)with h2|h2
     ·have:=h.toknew j _ h2;simp_all
     grind
    obtain⟨cs',h2,_⟩:=(h.toks j t' e2).block
    exact Nat.ne_of_lt (kR h2)) (by simp_all) hvl
  refine⟨_,_,_,g',hr,hK,?_⟩
  have hv2:upd ver' d (s.ver d+1)=ver':=by grind [upd]
  simp only[hv2]at hg'
  rw[List.length_append]at hg'
  exact hg'
theorem zcO (off:Nat):∀(l:List Value) (k:Nat) (cs:Array Value),off+k+l.length<=cs.size->
  ((l.zipIdx k).foldl (fun cs x=>cs.setIfInBounds (off+x.2) x.1) cs).toList=cs.toList.take (off+k)++l++cs.toList.drop (off+k+l.length)
 | [],k,cs,_=>by simp
 | v::l,k,cs,h=>by
  simp only[List.zipIdx_cons,List.foldl_cons]
  rw[zcO off l (k+1) _ (by simp at h |-;omega)]
  have e:=list_seg_step cs.toList (off+k) v l (by simp at h |-;omega)
  simpa[Array.toList_setIfInBounds,Nat.add_assoc]using e

theorem zbx (off:Nat) (v:Array Value) (cs:Array Value) (h:off+v.size<=cs.size) :
  (v.zipIdx.foldl (fun cs (x:Value × Nat)=>cs.setIfInBounds (off+x.2) x.1) cs).toList=cs.toList.take off++v.toList++cs.toList.drop (off+v.size):=by
 have:=zcO off v.toList 0 cs (by simpa using h)
 simp only[Nat.add_zero,Array.length_toList]at this
 grind [Array.toList_zipIdx]

def y7 (P:Program) (s:St) (tyAt:Nat->Option TypeId):List (Nat × Operand)->List AV->Option (List AV)
 | [],ps=>some ps
 | (i,x)::r,ps=>match tyAt i with
  | none=>none
  | some T=>match co (q9 P T) (ev s x)with
   | none=>none
   | some y=>if i<ps.length then y7 P s tyAt r (ps.set i y) else none

theorem UU {c:Ctx} (hl:laidOutB c.P=true) {s:St} {a:Act} {w:World} {g:Gh} {β:Nat->Nat} (h:zF c s a w g β) {fs:List TypeId} {place:Nat->Option (Nat × Nat)}
  (hp:∀i T,fs[i]?=some T->q9 c.P T≠.other->place i=some (((fs.take i).map c.P.cellsOf).sum,c.P.cellsOf T)) :
  ∀(l:List (Nat × Operand)) (ps ps':List AV) (cells:Array Value),VF c.P g w fs ps cells.toList->y7 c.P s (fs[·]?) l ps=some ps'->
   ∃cells',Instr.fill place cells (l.map fun x=>(x.1,a.eval x.2))=some cells'/\VF c.P g w fs ps' cells'.toList
 | [],ps,ps',cells,hv,hb=>by simp only[y7,Option.some.injEq]at hb;subst hb;exact⟨cells,rfl,hv⟩
 | (i,x)::r,ps,ps',cells,hv,hb=>by
  simp only[y7]at hb
  cases hT:fs[i]? with
  | none=>simp_all
  | some T =>
   rw[hT]at hb
   simp only at hb
   cases hy:co (q9 c.P T) (ev s x)with
   | none=>simp_all
   | some y =>
    rw[hy]at hb
    simp only at hb
    split at hb
    ·rename_i hi
     have hvy:=kQ hy (qT h x)
     have hne:=y5 hl _ _ _ hvy.2
     have hsz:=jG hl hne
     have hlen:=wN hl _ _ _ hne hvy.2
     have hpl:=hp i T hT hne
     obtain⟨T',hT',_,hle⟩:=zav hl hv (List.getElem?_eq_getElem hi)
     rw[hT]at hT';cases hT'
     have hcs:(a.eval x).cells.size=c.P.cellsOf T:=by simp_all
     have hle':((fs.take i).map c.P.cellsOf).sum+c.P.cellsOf T<=cells.size:=by omega
     have hf:=zbx ((fs.take i).map c.P.cellsOf).sum (a.eval x).cells cells (by omega)
     have jW:=znD hl hv hT hvy.2
     rw[<-hcs,<-hf]at jW
     obtain⟨cells',h1,h2⟩:=UU hl h hp r _ ps' _ jW hb
     simp_all[Instr.fill]
    ·cases hb

theorem P5 {c:Ctx} (hl:laidOutB c.P=true) {s:St} {a:Act} {w:World} {g:Gh} {β:Nat->Nat} (h:zF c s a w g β) {e:TypeId} :
  ∀(l:List (Nat × Operand)) (ps ps':List AV) (cells:Array Value),VL c.P g w e ps cells.toList->y7 c.P s (fun _=>some e) l ps=some ps'->
   ∃cells',Instr.fill (fun i=>some (i*c.P.cellsOf e,c.P.cellsOf e)) cells (l.map fun x=>(x.1,a.eval x.2))=some cells'/\VL c.P g w e ps' cells'.toList
 | [],ps,ps',cells,hv,hb=>by simp only[y7,Option.some.injEq]at hb;subst hb;exact⟨cells,rfl,hv⟩
 | (i,x)::r,ps,ps',cells,hv,hb=>by
  simp only[y7]at hb
  cases hy:co (q9 c.P e) (ev s x)with
  | none=>simp_all
  | some y =>
   rw[hy]at hb
   simp only at hb
   split at hb
   ·rename_i hi
    have hvy:=kQ hy (qT h x)
    have hne:=y5 hl _ _ _ hvy.2
    have hsz:=jG hl hne
    have hlen:=wN hl _ _ _ hne hvy.2
    obtain⟨_,hle⟩:=vQ hl hv (List.getElem?_eq_getElem hi)
    have hcs:(a.eval x).cells.size=c.P.cellsOf e:=by simp_all
    have hle':i*c.P.cellsOf e+c.P.cellsOf e<=cells.size:=by omega
    have hf:=zbx (i*c.P.cellsOf e) (a.eval x).cells cells (by omega)
    have jW:=zmF hl hv hi hvy.2
    rw[<-hcs]at jW
    rw[hcs]at jW hf
    have hset':VL c.P g w e (ps.set i y) ((a.eval x).cells.zipIdx.foldl (fun cs (x:Value × Nat)=>cs.setIfInBounds (i*c.P.cellsOf e+x.2) x.1) cells).toList:=by
     simp_all
    obtain⟨cells',h1,h2⟩:=P5 hl h r _ ps' _ hset' hb
    simp_all[Instr.fill]
   ·cases hb

def QR (z:AV):List AV:=match z with|.agg ps=>ps|_=>[]

def V1 (P:Program) (s:St) (T:TypeId) (parts:Array (Nat × Operand)) (K:TV->Prop):Prop :=
 zB P T=true/\match q9 P T with
 | .struct fs=>match y7 P s (fs[·]?) parts.toList (QR (zT P T))with
  | some ps=>K (.av (.struct fs) (.agg ps))
  | none=>False
 | .arr n e=>k7 P e=true/\match y7 P s (fun _=>some e) parts.toList (QR (zT P T))with
  | some ps=>K (.av (.arr n e) (.agg ps))
  | none=>False
 | _=>False

theorem uT {P:Program} {s:St} {f:Nat->Option TypeId}:∀(l:List (Nat × Operand)) (ps ps':List AV),y7 P s f l ps=some ps'->ps'.length=ps.length
 | [],ps,ps',h=>by simp_all[y7]
 | (i,x)::r,ps,ps',h=>by
  simp only[y7]at h
  split at h
  ·cases h
  ·split at h
   ·cases h
   ·split at h
    ·rw[uT r _ ps' h];simp
    ·cases h

theorem zfJ {c:Ctx} (hl:laidOutB c.P=true) {s:St} {a:Act} {w:World} {g:Gh} {β:Nat->Nat} (h:zF c s a w g β) {T:TypeId} {parts:Array (Nat × Operand)} {K:TV->Prop} (hd:V1 c.P s T parts K) :
  ∃u tu,(Instr.build T (parts.map fun(i,x)=>(i,a.eval x))).run c.P w=.ok u w/\K tu/\TVR c.P s g w β tu u:=by
 obtain⟨hz,hd⟩:=hd
 obtain⟨z,hzr,hzv⟩:=K9 hz
 have hv:=hzv g w
 cases hT:q9 c.P T<;>rw[hT]at hd<;>try (exact hd.elim)
 ·rename_i fs
  simp only at hd
  obtain⟨u,hu,hm⟩:=qO hT (by simp)
  simp only[zP]at hm
  obtain⟨F,rfl,rfl,_⟩:=hm
  cases hb:y7 c.P s ((F.toList.map (·.type))[·]?) parts.toList (QR (zT c.P T))with
  | none=>rw[hb]at hd;exact hd.elim
  | some ps =>
   rw[hb]at hd
   simp only at hd
   rw[hT]at hv
   obtain⟨cs,rfl⟩:=QC rfl hv
   obtain⟨_,hv⟩:=hv
   cases hzT:zT c.P T with
   | agg qs =>
    rw[hzT]at hv hb
    simp only[VC,Value.cells]at hv
    have hne:q9 c.P T≠.other:=by rw[hT];simp
    obtain⟨cells',h1,h2⟩:=UU hl h (fs:=F.toList.map (·.type)) (place:=fun i=>(F.map fun f=>(f.offset,c.P.cellsOf f.type))[i]?) (fun i T' hT' hne'=>by
     simp only[List.getElem?_map,Option.map_eq_some_iff]at hT'
     obtain⟨fd,hfd,rfl⟩:=hT'
     have hfd':F[i]?=some fd:=by simpa using hfd
     have:=uC hl (J3 hne) hu hfd'
     simp[hfd',this,List.map_take]) parts.toList qs ps cs hv hb
    refine⟨.agg cells',_,?_,hd,rfl,by simpa only[VC,Value.cells]using h2⟩
    unfold Instr.build
    have hmap:(F.mapM fun f=>do pure (f.offset,<-sizeOf f.type):Sem (Array (Nat × Nat))).run c.P w=.ok (F.map fun f=>(f.offset,c.P.cellsOf f.type)) w:=by
     have hall:∀f∈F.toList,q9 c.P f.type≠.other\/∃i,c.P.info? f.type=some i:=by
      intro f hf
      right
      have hlt:=J3 hne
      have hr:=pB hl hlt
      have hvv:isVar c.P T=true:=p6 hne
      unfold rowFine at hr
      simp only[hvv,Bool.not_true,Bool.false_or,hu,Bool.and_eq_true,List.all_eq_true]at hr
      have:=hr.1.1 f hf
      simp only[isVar,Bool.and_eq_true,decide_eq_true_eq]at this
      exact CZ this.1
     rw[Array.mapM_eq_mapM_toList]
     have key:∀(l:List Field),(∀f∈l,q9 c.P f.type≠.other\/∃i,c.P.info? f.type=some i)->
       (l.mapM fun f=>Functor.map (Prod.mk f.offset) (sizeOf f.type):Sem (List (Nat × Nat))).run c.P w=.ok (l.map fun f=>(f.offset,c.P.cellsOf f.type)) w:=by
      intro l
      induction l with
      | nil=>intro _;rfl
      | cons f r ih =>
       intro hall
       have h1:(sizeOf f.type).run c.P w=.ok (c.P.cellsOf f.type) w:=by
        rcases hall f (by simp)with h|⟨i,hi⟩
        ·exact Q8 h w
        ·exact run_sizeOf w hi
       simp[List.mapM_cons,h1,ih (fun f hf=>hall f (by simp[hf]))]
     simp[key F.toList hall]
     obtain⟨l⟩:=F;simp
    have hparts:(parts.map fun(i,x)=>(i,a.eval x)).toList=parts.toList.map fun x=>(x.1,a.eval x.2):=by simp
    simp only[Sem.run_bind,hzr,Result.andThen_ok,run_underlying hu,hmap,Value.cells,hparts,h1,Sem.run_pure]
   | _=>rw[hzT]at hv;simp[VC]at hv
 ·rename_i n e
  simp only at hd
  obtain⟨hp,hd⟩:=hd
  obtain⟨u,hu,hm⟩:=qO hT (by simp)
  simp only[zP]at hm;subst hm
  obtain⟨i,hi⟩:=jV hp
  cases hb:y7 c.P s (fun _=>some e) parts.toList (QR (zT c.P T))with
  | none=>rw[hb]at hd;exact hd.elim
  | some ps =>
   rw[hb]at hd
   simp only at hd
   rw[hT]at hv
   obtain⟨cs,rfl⟩:=QC rfl hv
   obtain⟨_,hv⟩:=hv
   cases hzT:zT c.P T with
   | agg qs =>
    rw[hzT]at hv hb
    simp only[VC,Value.cells]at hv
    obtain⟨cells',h1,h2⟩:=P5 hl h parts.toList qs ps cs hv.2 hb
    have hlen:=uT _ _ _ hb
    simp only[QR]at hlen
    refine⟨.agg cells',_,?_,hd,rfl,by simp only[VC,Value.cells];exact⟨hlen.trans hv.1,h2⟩⟩
    unfold Instr.build
    have hparts:(parts.map fun(i,x)=>(i,a.eval x)).toList=parts.toList.map fun x=>(x.1,a.eval x.2):=by simp
    simp only[Sem.run_bind,hzr,Result.andThen_ok,run_underlying hu,run_sizeOf w hi,Value.cells,hparts,h1,Sem.run_pure]
   | _=>rw[hzT]at hv;simp[VC]at hv
end Go.Ab
end
section
namespace Go.Ab
open Go
open Classical
variable [Sel]
structure Cfg where
 esc:Nat->Bool
 mtb:Nat->Bool

mutual
def AV.er:AV->AV
 | .agg ps=>.agg (AV.ers ps)
 | .sl _ xs=>.sl .no (AV.ers xs)
 | .ifc T x=>.ifc T x.er
 | .fn f caps=>.fn f (AV.ers caps)
 | .bm f caps=>.bm f (AV.ers caps)
 | .b x=>.b x
 | .i k n=>.i k n
 | .s x=>.s x
 | .msl b0 e off len cap=>.msl b0 e off len cap
 | .nsl=>.nsl
 | .ptr b0 d p=>.ptr b0 d p
 | .nilptr=>.nilptr
 | .nilfn=>.nilfn
 | .map r=>.map r
 | .nilifc=>.nilifc
 | .yl l=>.yl l
def AV.ers:List AV->List AV
 | []=>[]
 | x::xs=>x.er::AV.ers xs
end
theorem AV.ers_eq (xs:List AV):AV.ers xs=xs.map AV.er:=by
 induction xs with
 | nil=>rfl
 | cons x xs ih=>simp[AV.ers,ih]
def Tok.k:Tok->Tok
 | .own _ _=>.no
 | t=>t
mutual
def AV.erk:AV->AV
 | .agg ps=>.agg (AV.erks ps)
 | .sl t xs=>.sl t.k (AV.ers xs)
 | .ifc T x=>.ifc T x.er
 | .fn f caps=>.fn f (AV.ers caps)
 | .bm f caps=>.bm f (AV.ers caps)
 | .b x=>.b x
 | .i k n=>.i k n
 | .s x=>.s x
 | .msl b0 e off len cap=>.msl b0 e off len cap
 | .nsl=>.nsl
 | .ptr b0 d p=>.ptr b0 d p
 | .nilptr=>.nilptr
 | .nilfn=>.nilfn
 | .map r=>.map r
 | .nilifc=>.nilifc
 | .yl l=>.yl l
def AV.erks:List AV->List AV
 | []=>[]
 | x::xs=>x.erk::AV.erks xs
end
theorem AV.erks_eq (xs:List AV):AV.erks xs=xs.map AV.erk:=by
 induction xs with
 | nil=>rfl
 | cons x xs ih=>simp[AV.erks,ih]
mutual
theorem kX (x:AV) (h:x.er=x):x.erk=x:=by
 cases x with
 | agg ps =>
  simp only[AV.er,AV.agg.injEq]at h
  simp only[AV.erk,AV.agg.injEq]
  exact cX ps h
 | sl t xs =>
  simp only[AV.er,AV.sl.injEq]at h
  simp only[AV.erk,AV.sl.injEq]
  exact⟨by rw[<-h.1];rfl,h.2⟩
 | _=>exact h
theorem cX (xs:List AV) (h:AV.ers xs=xs):AV.erks xs=xs:=by
 cases xs with
 | nil=>rfl
 | cons x xs =>
  simp only[AV.ers,List.cons.injEq]at h
  simp only[AV.erks,List.cons.injEq]
  exact⟨kX x h.1,cX xs h.2⟩
end
section
variable {P:Program} {g:Gh} {w:World}
mutual
theorem uD (x:AV) (d:TyD) (cs:List Value) (h:VC P g w d x cs):VC P (g0 g.imm) w d x.er cs:=by
 cases x with
 | agg ps =>
  simp only[AV.er]
  cases d with
  | struct fs=>simp only[VC]at h |-;exact zqB ps fs cs h
  | arr n e=>simp only[VC]at h |-;exact⟨by simp[AV.ers_eq,h.1],zjF ps e cs h.2⟩
  | _=>simp[VC]at h
 | sl t xs =>
  simp only[AV.er,VC]at h |-
  obtain⟨e,a,cap,h1,h2,h3,h4,h5⟩:=h
  have hl:(AV.ers xs).length=xs.length:=by simp[AV.ers_eq]
  refine⟨e,a,cap,h1,by rw[hl];exact h2,by rw[hl];exact h3,?_,trivial⟩
  rcases h4 with h4|⟨b,off,ha,hb,hv⟩
  ·left;rw[h4];rfl
  ·right;exact⟨b,off,ha,by rw[hl];exact hb,by rw[hl];exact zjF xs e _ hv⟩
 | fn f caps=>simp only[AV.er,VC]at h |-;obtain⟨h1,vs,h2,h3⟩:=h;exact⟨h1,vs,h2,zlF caps vs h3⟩
 | bm f caps=>simp only[AV.er,VC]at h |-;obtain⟨h1,vs,h2,h3⟩:=h;exact⟨h1,vs,h2,zlF caps vs h3⟩
 | ifc T x=>simp only[AV.er,VC]at h |-;obtain⟨h1,v,h2,hf,h3⟩:=h;exact⟨h1,v,h2,hf,uD x _ _ h3⟩
 | _=>simp only[AV.er,VC]at h |-;exact h
theorem zjF (xs:List AV) (e:TypeId) (cs:List Value) (h:VL P g w e xs cs):VL P (g0 g.imm) w e (AV.ers xs) cs:=by
 cases xs with
 | nil=>simp only[AV.ers,VL]at h |-;exact h
 | cons x xs =>
  simp only[AV.ers,VL]at h |-
  obtain⟨c1,c2,h1,h2,h3⟩:=h
  exact⟨c1,c2,h1,uD x _ _ h2,zjF xs _ _ h3⟩
theorem zqB (ps:List AV) (fs:List TypeId) (cs:List Value) (h:VF P g w fs ps cs):VF P (g0 g.imm) w fs (AV.ers ps) cs:=by
 cases ps with
 | nil=>simp only[AV.ers,VF]at h |-;exact h
 | cons x xs =>
  simp only[AV.ers,VF]at h |-
  obtain⟨f,r,c1,c2,h0,h1,h2,h3⟩:=h
  exact⟨f,r,c1,c2,h0,h1,uD x _ _ h2,zqB xs _ _ h3⟩
theorem zlF (xs:List AV) (cs:List Value) (h:VA P g w xs cs):VA P (g0 g.imm) w (AV.ers xs) cs:=by
 cases xs with
 | nil=>simp only[AV.ers,VA]at h |-;exact h
 | cons x xs =>
  simp only[AV.ers,VA]at h |-
  obtain⟨d,v,c2,h1,hf,h2,h3⟩:=h
  exact⟨d,v,c2,h1,hf,uD x _ _ h2,zlF xs _ h3⟩
end
end
section
variable {P:Program} {g:Gh} {w:World}
mutual
theorem zh7 (x:AV) (d:TyD) (cs:List Value) (h:VC P g w d x cs):VC P (g0 g.imm) w d x.erk cs:=by
 cases x with
 | agg ps =>
  simp only[AV.erk]
  cases d with
  | struct fs=>simp only[VC]at h |-;exact zmA ps fs cs h
  | arr n e=>simp only[VC]at h |-;exact⟨by simp[AV.erks_eq,h.1],znt ps e cs h.2⟩
  | _=>simp[VC]at h
 | sl t xs =>
  simp only[AV.erk,VC]at h |-
  obtain⟨e,a,cap,h1,h2,h3,h4,h5⟩:=h
  have hl:(AV.ers xs).length=xs.length:=by simp[AV.ers_eq]
  refine⟨e,a,cap,h1,by rw[hl];exact h2,by rw[hl];exact h3,?_,?_⟩
  ·rcases h4 with h4|⟨b,off,ha,hb,hv⟩
   ·left;rw[h4];rfl
   ·right;exact⟨b,off,ha,by rw[hl];exact hb,by rw[hl];exact zjF xs e _ hv⟩
  ·cases t with
   | no=>trivial
   | own k v=>trivial
   | full=>simp only[Tok.k,gR,hl]at h5 |-;exact h5
 | _=>exact uD _ d cs h
theorem znt (xs:List AV) (e:TypeId) (cs:List Value) (h:VL P g w e xs cs):VL P (g0 g.imm) w e (AV.erks xs) cs:=by
 cases xs with
 | nil=>simpa[AV.erks,VL]using h
 | cons x xs =>
  simp only[AV.erks,VL]at h |-
  obtain⟨c1,c2,h0,h1,h2⟩:=h
  exact⟨c1,c2,h0,zh7 x _ _ h1,znt xs e _ h2⟩
theorem zmA (ps:List AV) (fs:List TypeId) (cs:List Value) (h:VF P g w fs ps cs):VF P (g0 g.imm) w fs (AV.erks ps) cs:=by
 cases ps with
 | nil=>simpa[AV.erks,VF]using h
 | cons x xs =>
  simp only[AV.erks,VF]at h |-
  obtain⟨f,r,c1,c2,e0,h0,h1,h2⟩:=h
  exact⟨f,r,c1,c2,e0,h0,zh7 x _ _ h1,zmA xs r _ h2⟩
end
end
def TV.er:TV->TV
 | .av d x=>.av d x.er
 | .cst v=>.cst v
 | .tup xs=>.tup (xs.map fun p=>(p.1,p.2.er))
 | .loc k p=>.loc k p
 | .pel d x=>.pel d x
 | .junk=>.junk
def HObj.er:HObj->HObj
 | .var d x=>.var d x.erk
 | .map k e es=>.map k e (es.map fun p=>(p.1.er,p.2.er))
 | .raw r i w=>.raw r i w
def q8.er (H:q8):q8:=H.map fun p=>(p.1,p.2.er)
def qI:TV->Bool
 | .av _ _|.cst _=>true
 | _=>false
theorem zsX {P:Program} {s:St} {g:Gh} {w:World} {β:Nat->Nat} {tv:TV} {v:Value} (h:TVR P s g w β tv v) (ho:qI tv=true):AR P (g0 g.imm) w tv.er v:=by
 cases tv<;>simp[qI]at ho
 ·exact⟨h.1,uD _ _ _ h.2⟩
 ·exact h
theorem ze4 {c:Ctx} {s:St} {a:Act} {w:World} {g:Gh} {β:Nat->Nat} (h:zF c s a w g β):∀(l:List Operand),(l.map (ev s)).all qI=true->ARs c.P (g0 g.imm) w ((l.map (ev s)).map TV.er) (l.map a.eval)
 | [],_=>trivial
 | x::l,ho=>by
  simp only[List.map_cons,List.all_cons,Bool.and_eq_true]at ho
  exact⟨zsX (qT h x) ho.1,ze4 h l ho.2⟩
theorem q8.er_keys (H:q8):H.er.keys=H.keys:=by simp[q8.er,q8.keys,Function.comp_def]
theorem zbb {P:Program} {g:Gh} {w:World} {k e:TypeId}:∀ {es:List (AV × AV)} {en:List MapEntry},yA P g w k e es en->yA P (g0 g.imm) w k e (es.map fun p=>(p.1.er,p.2.er)) en
 | [],[],_=>trivial
 | (x,y)::_,_::_,h=>⟨⟨h.1.1,uD x _ _ h.1.2⟩,⟨h.2.1.1,uD y _ _ h.2.1.2⟩,zbb h.2.2⟩
 | [],_::_,h=>h.elim
 | _::_,[],h=>h.elim
theorem WE {P:Program} {g:Gh} {w:World} {H Hs rest:q8} (h:Rep P g w H) (hp:H.Perm (Hs++rest)):Rep P (g0 g.imm) w Hs.er:=by
 refine⟨h.imm,?_,fun b o hb=>?_,h.tab⟩
 ·rw[q8.er_keys]
  have h1:(q8.keys (Hs++rest)).Nodup:=(hp.map _).nodup_iff.1 h.nodup
  simp_all[q8.keys,List.nodup_append]
 ·obtain⟨⟨b',o'⟩,ho',he⟩:=List.mem_map.1 hb
  cases he
  have:=h.obj b' o' (hp.mem_iff.2 (List.mem_append_left _ ho'))
  cases o' with
  | var d x=>obtain⟨h1,cs,h2,h3⟩:=this;exact⟨h1,cs,h2,zh7 x d _ h3⟩
  | map k e es=>obtain⟨h1,en,ck,h2,h3⟩:=this;exact⟨h1,en,ck,h2,zbb h3.1,h3.2⟩
  | raw r i0 w0=>exact this
theorem zF.called {c:Ctx} {s:St} {a:Act} {w:World} {g:Gh} {β:Nat->Nat} (h:zF c s a w g β) {Hs rest H':q8} (hp:s.H.Perm (Hs++rest)) {imm':Nat->Nat} {w':World}
  (hr:Rep c.P (g0 imm') w' H') (hst:JN g.imm Hs.er w imm' H' w'):zF c { s with H:=H'++rest } a w' { g with imm:=imm' } β:=by
 have hle:g.le { g with imm:=imm' }:=⟨hst.imm,fun _ _ _ e=>e⟩
 have hik:jP g w w':=fun b cs E fz h0 hb=>hst.kept b cs E fz h0 hb
 have hi:=h.rep.imm
 have hmem:∀b,b∈s.H.keys<->b∈Hs.keys\/b∈rest.keys:=by
  intro b
  have:=(hp.map (·.1)).mem_iff (a:=b)
  simp only[List.map_append,List.mem_append]at this
  exact this
 have hsub:∀b,b∈Hs.keys->b∈s.H.keys:=fun b hb=>(hmem b).2 (.inl hb)
 have hnodup:(Hs.keys++rest.keys).Nodup:=by
  have h1:(q8.keys (Hs++rest)).Nodup:=(hp.map _).nodup_iff.1 h.rep.nodup
  simp_all[q8.keys]
 have hfr:∀b,b<w.heap.size->b∉Hs.keys->w'.heap[b]?=w.heap[b]?/\imm' b=g.imm b:=fun b hb hn=>hst.frame b hb (by simp_all[q8.er_keys])
 have hkey':∀b,b∈H'.keys->b∈Hs.keys\/w.heap.size<=b:=fun b hb=>by have:=hst.dom b hb;grind [q8.er_keys]
 have hcells:∀ {b cs} {Q:TypeId->Prop} {F:Prop},kD w b cs Q F->b∉Hs.keys->kD w' b cs Q F/\imm' b=g.imm b:=by
  intro b cs Q F hc hn
  have hlt:=kR hc
  obtain⟨h1,h2⟩:=hfr b hlt hn
  obtain⟨E,fz,h3,h4⟩:=hc
  exact⟨⟨E,fz,h1.trans h3,h4⟩,h2⟩
 have hnew:∀b,b<w.heap.size->b∉s.H.keys->b∉q8.keys (H'++rest):=by
  grind [q8.keys]
 exact {
  defers:=h.defers.of fun D hD=>by
   have hlt:=(Array.getElem?_eq_some_iff.1 hD).1
   have hn:D∉Hs.keys:=fun hin=>by
    obtain⟨⟨b,o⟩,ho,e⟩:=List.mem_map.1 (hsub D hin)
    simp only at e;subst e
    have hr:=h.rep.obj b o ho
    cases o with
    | var d x=>obtain⟨_,cs,⟨E,fz,h1,_⟩,_⟩:=hr;simp_all
    | map k e es=>obtain⟨_,en,ck,h1,_⟩:=hr;simp_all
    | raw r i0 w0=>obtain⟨_,h1,h2⟩:=hr;rw[hD]at h1;cases h1;exact absurd h2.2 (by simp[zht])
   simp_all
  size:=h.size
  env:=fun t=>y8 hle hi hik (fun k d x e=>⟨x,e,rfl⟩) (h.env t)
  locs:=fun k d x e=>by
   have L:=h.locs k d x e
   obtain⟨cs,h1,h2⟩:=L.block
   obtain⟨h3,h4⟩:=hcells h1 (fun hin=>L.noH (hsub _ hin))
   exact⟨L.base,hnew _ (kR h1) L.noH,h4.trans L.imm,cs,h3,jE hle hi hik x d _ h2⟩
  inj:=h.inj
  rep:=⟨fun b hb=>hr.imm b hb,by
    show (q8.keys (H'++rest)).Nodup
    simp only[q8.keys,List.map_append]
    refine List.nodup_append.2 ⟨hr.nodup,(List.nodup_append.1 hnodup).2.1,fun b hb b' hb' e=>?_⟩
    subst e
    rcases hkey' b hb with h1|h1
    ·exact(List.nodup_append.1 hnodup).2.2 b h1 b hb' rfl
    ·have:=zhF h.rep ((hmem b).2 (.inr hb'));omega,fun b o hb=>by
    rcases List.mem_append.1 hb with h1|h1
    ·have:=hr.obj b o h1
     cases o with
     | var d x =>
      obtain⟨h2,cs,h3,h4⟩:=this
      exact⟨h2,cs,h3,jE (g:=g0 imm') (g':={ g with imm:=imm' }) ⟨fun _=>Nat.le_refl _,fun _ _ _ e=>by cases e⟩ hr.imm (fun b cs E fz _ hb=>⟨cs,E,fz,hb,rfl,fun _ _=>rfl⟩) x d _ h4⟩
     | map k e es =>
      obtain⟨h2,en,ck,h3,h4⟩:=this
      exact⟨h2,en,ck,h3,yI (g:=g0 imm') (g':={ g with imm:=imm' }) ⟨fun _=>Nat.le_refl _,fun _ _ _ e=>by cases e⟩ hr.imm (fun b cs E fz _ hb=>⟨cs,E,fz,hb,rfl,fun _ _=>rfl⟩) h4⟩
     | raw r i0 w0=>exact this
    ·have hbk:b∈rest.keys:=List.mem_map.2 ⟨_,h1,rfl⟩
     have hnin:b∉Hs.keys:=fun hin=>(List.nodup_append.1 hnodup).2.2 b hin b hbk rfl
     have:=h.rep.obj b o (hp.mem_iff.2 (List.mem_append_right _ h1))
     cases o with
     | var d x =>
      obtain⟨h2,cs,h3,h4⟩:=this
      obtain⟨h5,h6⟩:=hcells h3 hnin
      exact⟨h6.trans h2,cs,h5,jE hle hi hik x d _ h4⟩
     | map k e es =>
      obtain⟨h2,en,ck,h3,h4⟩:=this
      obtain⟨h5,h6⟩:=hfr b (Array.getElem?_eq_some_iff.1 h3).1 hnin
      exact⟨h6.trans h2,en,ck,h5.trans h3,yI hle hi hik h4⟩
     | raw r i0 w0 =>
      obtain⟨h2,h3,h4⟩:=this
      obtain⟨h5,h6⟩:=hfr b (Array.getElem?_eq_some_iff.1 h3).1 hnin
      exact⟨h6.trans h2,h5.trans h3,yE h4 hle hik⟩,hr.tab⟩
  toks:=fun k t e=>by
   have T:=h.toks k t e
   obtain⟨cs,h1,h2⟩:=T.block
   obtain⟨h3,h4⟩:=hcells h1 (fun hin=>T.noH (hsub _ hin))
   exact⟨T.base,hnew _ (kR h1) T.noH,T.noLoc,h4.trans T.imm,cs,h3,h2⟩
  tokd:=h.tokd
  toknew:=h.toknew
  step:={
   os:=hst.os.trans h.step.os,tape:=hst.tape.trans h.step.tape,output:=hst.output.trans h.step.output,drawn:=fun hd=>Nat.le_trans (h.step.drawn hd) (hst.drawn hd)
   size:=Nat.le_trans h.step.size hst.size
   frame:=fun b hb hn=>by
    have hlt:b<w.heap.size:=Nat.lt_of_lt_of_le hb h.step.size
    have hnin:b∉Hs.keys:=fun hin=>by
     rcases h.step.dom b (hsub b hin)with h1|h1
     ·exact hn h1
     ·omega
    obtain⟨h1,h2⟩:=hfr b hlt hnin
    obtain⟨h3,h4⟩:=h.step.frame b hb hn
    simp_all
   imm:=fun b=>Nat.le_trans (h.step.imm b) (hst.imm b)
   kept:=fun b cs E fz h0 hb=>by
    obtain⟨cs1,E1,fz1,h1,h2⟩:=h.step.kept b cs E fz h0 hb
    have himm:=h.step.imm b
    obtain⟨cs2,E2,fz2,h3,h4⟩:=hst.kept b cs1 E1 fz1 (by omega) h1
    grind
   dom:=fun b hb=>by
    simp only[q8.keys,List.map_append,List.mem_append]at hb
    rcases hb with h1|h1
    ·rcases hkey' b h1 with h2|h2
     ·exact h.step.dom b (hsub b h2)
     ·right;have:=h.step.size;omega
    ·exact h.step.dom b ((hmem b).2 (.inr h1)) } }
end Go.Ab
end
section
namespace Go.Ab
open Go
open Classical
variable [Sel]
def HSub (a b:q8):Prop:=∃c,b.Perm c/\a.Sublist c
theorem HSub.refl (a:q8):HSub a a:=⟨a,List.Perm.refl _,List.Sublist.refl _⟩
theorem HSub.of_sub {a b:q8} (h:a.Sublist b):HSub a b:=⟨b,List.Perm.refl _,h⟩
theorem HSub.of_perm {a b:q8} (h:b.Perm a):HSub a b:=⟨a,h,List.Sublist.refl _⟩
theorem HSub.subset {a b:q8} (h:HSub a b) {x:Nat × HObj} (hx:x∈a):x∈b:=by
 obtain⟨c,h1,h2⟩:=h
 grind
theorem HSub.keys {a b:q8} (h:HSub a b) {x:Nat} (hx:x∈a.keys):x∈b.keys:=by
 obtain⟨p,hp,rfl⟩:=List.mem_map.1 hx
 exact List.mem_map.2 ⟨p,h.subset hp,rfl⟩
theorem HSub.nodup {a b:q8} (h:HSub a b) (hb:b.keys.Nodup):a.keys.Nodup:=by
 obtain⟨c,h1,h2⟩:=h
 exact(h2.map _).nodup ((h1.map _).nodup_iff.1 hb)
theorem zF.subH {c:Ctx} {s:St} {a:Act} {w:World} {g:Gh} {β:Nat->Nat} (h:zF c s a w g β) {H':q8} (hs:HSub H' s.H):zF c { s with H:=H' } a w g β:=by
 have hkeys:∀b,b∈H'.keys->b∈s.H.keys:=fun b hb=>hs.keys hb
 exact { h with
  env:=fun t=>y8 (Gh.le_refl g) h.rep.imm (fun b cs E fz _ hb=>⟨cs,E,fz,hb,rfl,fun _ _=>rfl⟩) (fun j d' y e=>⟨y,e,rfl⟩) (h.env t)
  locs:=fun k d x e=>by
   have L:=h.locs k d x e
   exact⟨L.base,fun hin=>L.noH (hkeys _ hin),L.imm,L.block⟩
  rep:=⟨h.rep.imm,hs.nodup h.rep.nodup,fun b o ho=>h.rep.obj b o (hs.subset ho),h.rep.tab⟩
  toks:=fun k t e=>by
   have T:=h.toks k t e
   exact⟨T.base,fun hin=>T.noH (hkeys _ hin),T.noLoc,T.imm,T.block⟩
  step:={ h.step with dom:=fun b hb=>h.step.dom b (hkeys b hb) } }

/-! ### slices that may be written: made, and grown; maps made and written -/
def JP (P:Program) (s:St) (e TX:TypeId) (y:TV) (K:List AV->Prop):Prop :=
 match q9 P TX with
 | .slice e'=>e'=e/\match co (.slice e) y with
  | some (.sl _ ys)=>K ys
  | some .nsl=>K []
  | some (.msl b e2 off len cap)=>match k8 s.H b with
   | some (.var (.arr m e3) (.agg xs))=>e2=e/\e3=e/\off+len<=m/\k7 P e=true/\K ((xs.drop off).take len)
   | _=>False
  | _=>False
 | .str=>match asS y with
  | some l=>q9 P e=.int .u8/\K (l.map fun b=>.i .u8 b.toNat)
  | none=>False
 | _=>False

def cM (P:Program) (s:St) (d:Nat) (e:TypeId) (xs ys:List AV) (K:St->Prop):Prop :=
 ∀b cap,b∉s.H.keys->xs.length+ys.length<=cap->
  K (({ s with H:=(b,.var (.arr cap e) (.agg (xs++ys++List.replicate (cap-(xs.length+ys.length)) (zT P e))))::s.H }:St).put (some d) (.av (.slice e) (.msl b e 0 (xs.length+ys.length) cap)))
def dG (P:Program) (e:TypeId) (n:Nat):Prop:=(2*n)*P.bytesOf e<=281474976710656/\n<=4611686018427387904/\zB P e=true/\k7 P e=true
def U6 (P:Program) (s:St) (d:Nat) (e:TypeId) (b off len cap:Nat) (ys:List AV) (K:St->Prop):Prop :=
 match k8 s.H b with
 | some (.var (.arr m e') (.agg xs))=>e'=e/\off+cap<=m/\len<=cap/\dG P e (len+ys.length)/\
  (len+ys.length<=cap->K (({ s with H:=jW s.H b (.var (.arr m e) (.agg (xs.take (off+len)++ys++xs.drop (off+len+ys.length)))) }:St).put (some d) (.av (.slice e) (.msl b e off (len+ys.length) cap))))/\
  (cap<len+ys.length->cM P s d e ((xs.drop off).take len) ys K)
 | _=>False
def VG (P:Program) (s:St) (d:Nat) (e:TypeId) (ys:List AV) (K:St->Prop):Prop :=
 dG P e ys.length/\(ys=[]->K (s.put (some d) (.av (.slice e) .nsl)))/\(0<ys.length->cM P s d e [] ys K)
noncomputable def pL (P:Program) (s:St) (T:TypeId) (m k v:TV) (K:St->Prop):Prop :=
 match q9 P T with
 | .map kt e=>match co (.map kt e) m,co (q9 P kt) k,co (q9 P e) v with
  | some (.map (some b)),some y,some z=>match k8 s.H b with
   | some (.map k' e' es)=>k'=kt/\e'=e/\X2 P kt=true/\K { s with H:=jW s.H b (.map kt e (WG y z es)) }
   | _=>False
  | _,_,_=>False
 | _=>False
noncomputable def uI (P:Program) (s:St) (T:TypeId) (l m:TV) (d:Nat) (K:St->Prop):Prop :=
 match q9 P T,asI l,asI m with
 | .slice e,some (_,n),some (_,m)=>0<=n/\n<=m/\(P.bytesOf e:Int)*m<=281474976710656/\m<=9223372036854775807/\zB P e=true/\k7 P e=true/\
  ∀b,b∉s.H.keys->K (({ s with H:=(b,.var (.arr m.toNat e) (.agg (List.replicate m.toNat (zT P e))))::s.H }:St).put (some d) (.av (.slice e) (.msl b e 0 n.toNat m.toNat)))
 | _,_,_=>False

section
variable {c:Ctx} (hl:laidOutB c.P=true) {s:St} {a:Act} {w:World} {g:Gh} {β:Nat->Nat} (h:zF c s a w g β)

theorem K8 {P:Program} {g:Gh} {w:World} {e:TypeId} {z:AV} {zc:Array Value} (hv:VC P g w (q9 P e) z zc.toList) (hs:zc.size=P.cellsOf e) (hp:0<zc.size) :
  ∀n,VL P g w e (List.replicate n z) ((Array.range (n*P.cellsOf e)).map (zc[· % zc.size]!)).toList
 | 0=>by simp[VL]
 | n+1=>by
  have ih:=K8 hv hs hp n
  simp only[List.replicate_succ,VL]
  refine⟨zc.toList,_,?_,hv,ih⟩
  simp only[Array.toList_map,Array.toList_range]
  rw[Nat.succ_mul,Nat.add_comm (n*P.cellsOf e),List.range_add,List.map_append,List.map_map]
  congr 1
  ·apply List.ext_getElem?
   grind [Nat.mod_eq_of_lt]
  simp_all

theorem UK {P:Program} {g:Gh} {w:World} {e:TypeId} (he:q9 P e=.int .u8):∀(l:List UInt8),VL P g w e (l.map fun b=>AV.i .u8 b.toNat) (l.map fun b=>Value.int .u8 b.toNat)
 | []=>by simp[VL]
 | b::l=>by simp only[List.map_cons,VL];exact⟨[_],_,rfl,⟨he,rfl⟩,UK he l⟩

include hl in
theorem zad {Q:TypeId->Prop} {F:Prop} {P:Program} (hl:laidOutB P=true) {g:Gh} {w:World} {T e:TypeId} (hu:P.underlying T=some (.slice e)) {b off len cap m:Nat} {xs:List AV} {cs:Array Value} (hc:kD w b cs Q F)
  (hv:VC P g w (.arr m e) (.agg xs) cs.toList) (hle:off+len<=m) :
  Src P (P.cellsOf e) T (.slice (some ⟨b,off*P.cellsOf e,none⟩) len cap) len ((cs.toList.drop (off*P.cellsOf e)).take (len*P.cellsOf e)) w/\VL P g w e ((xs.drop off).take len) ((cs.toList.drop (off*P.cellsOf e)).take (len*P.cellsOf e)):=by
 simp only[VC]at hv
 obtain⟨hm,hv⟩:=hv
 obtain⟨E,fz,h1,h2⟩:=hc
 have hsz:=ZD hl _ _ _ hv
 have hsub:=JV hl off len hv (by omega)
 have hmul:(off+len)*P.cellsOf e<=xs.length*P.cellsOf e:=Nat.mul_le_mul_right _ (by omega)
 rw[Nat.add_mul]at hmul
 have hlen:((cs.toList.drop (off*P.cellsOf e)).take (len*P.cellsOf e)).length=len*P.cellsOf e:=by
  grind
 refine⟨Src.ofSlice w hu ⟨b,off*P.cellsOf e,none⟩ len cap _ hlen ?_ ?_,hsub⟩
 ·intro j u hj
  have hj':j<len*P.cellsOf e:=by grind
  rw[wA,YL h1]
  grind
 grind [u6]

theorem gE {Q:TypeId->Prop} {F:Prop} {P:Program} (w:World) (t tx ty e:TypeId) (i:TypeInfo) (ht:P.underlying t=some (.slice e)) (hi:P.info? e=some i) (b off sLen sCap:Nat) (x:Value) (n:Nat) (news:List Value) (hs:Src P i.size tx x n news w)
  {cur:Array Value} (hb:kD w b cur Q F) (hroom:sLen+n<=sCap) (hfit:off+sLen*i.size+news.length<=cur.size) :
  (Builtin.append_ #[t,tx] ty #[.slice (some ⟨b,off,none⟩) sLen sCap,x]).run P w=.ok (.slice (some ⟨b,off,none⟩) (sLen+n) sCap)
   (w.setRow b (cur.toList.take (off+sLen*i.size)++news++cur.toList.drop (off+sLen*i.size+news.length)).toArray):=by
 obtain⟨E,fz,h1,h2⟩:=hb
 have hst:=y3 (P:=P) b (off+sLen*i.size) E fz news 0 cur w h1 (h2.1.imp_right And.left) (by omega) hs.one
 simp only[Nat.add_zero]at hst
 rcases hs.kind with⟨e',hk⟩|hk<;>simp[Builtin.append_,run_underlying ht,run_underlying hk,sizeOf,typeInfo,hi,hs.len,hroom,hs.cells,wA,hst]

include hl h in
theorem WC {e TX:TypeId} {ty:TV} {vy:Value} (hy:TVR c.P s g w β ty vy) {K:List AV->Prop} (hd:JP c.P s e TX ty K) :
  ∃ys news,K ys/\Src c.P (c.P.cellsOf e) TX vy ys.length news w/\VL c.P g w e ys news:=by
 unfold JP at hd
 cases hTX:q9 c.P TX<;>rw[hTX]at hd<;>try (exact hd.elim)
 ·simp only at hd
  cases hs:asS ty with
  | none=>rw[hs]at hd;exact hd.elim
  | some l =>
   rw[hs]at hd
   obtain⟨he,hk⟩:=hd
   obtain⟨str,rfl,rfl⟩:=KI hs hy
   obtain⟨u,hu,hm⟩:=qO hTX (by simp)
   simp only[zP]at hm;subst hm
   have hc1:c.P.cellsOf e=1:=by rw[jG hl (by rw[he];simp),he];rfl
   have hsz:str.data.toList.length=str.size:=by rw[Array.length_toList];rfl
   exact⟨_,byteCells str,hk,by rw[hc1,List.length_map,hsz];exact Src.ofString w hu str,UK he _⟩
 ·rename_i e'
  obtain⟨rfl,hd⟩:=hd
  obtain⟨u,hu,hm⟩:=qO hTX (by simp)
  simp only[zP]at hm;subst hm
  cases hc2:co (.slice e') ty with
  | none=>rw[hc2]at hd;exact hd.elim
  | some ay =>
   rw[hc2]at hd
   have hv:=kQ hc2 hy
   cases ay<;>simp only at hd<;>try (exact hd.elim)
   ·rename_i t2 ys
    obtain⟨news,h1,h2⟩:=zn5 hl h.rep.imm hTX hv
    exact⟨ys,news,hd,h1,h2⟩
   ·rename_i b e2 off len cap
    obtain⟨f,hv⟩:=hv
    simp only[VC]at hv
    obtain⟨_,hv⟩:=hv
    rw[qK rfl f]at hv
    cases hv
    cases hh:k8 s.H b with
    | none=>rw[hh]at hd;exact hd.elim
    | some o =>
     rw[hh]at hd
     cases o with
     | map k e es=>exact hd.elim
     | raw _ _ _=>exact hd.elim
     | var d x =>
      cases d<;>try (exact hd.elim)
      cases x<;>try (exact hd.elim)
      rename_i m e3 xs
      obtain⟨rfl,rfl,hle,hp,hk⟩:=hd
      obtain⟨_,cs,hcs,hvc⟩:=h.rep.obj b _ (jA hh)
      obtain⟨h1,h2⟩:=zad hl hl hu (cap:=cap) hcs hvc hle
      have hlen:((xs.drop off).take len).length=len:=by
       simp only[VC]at hvc
       rw[List.length_take,List.length_drop];omega
      exact⟨_,_,hk,by rw[hlen];exact h1,h2⟩
   ·obtain⟨f,hv⟩:=hv
    simp only[VC]at hv
    obtain⟨_,_,hv⟩:=hv
    rw[qK rfl f]at hv
    cases hv
    exact⟨[],[],hd,Src.ofNil w hu 0,by simp[VL]⟩

include hl h in
theorem C8 {T TX ty e:TypeId} (hu:c.P.underlying T=some (.slice e)) {base:Option Addr} {cap0:Nat} {xs ys:List AV} {olds news:List Value} {vy:Value} {d:Nat} (hd:d<c.n) {K:St->Prop}
  (hov:VL c.P g w e xs olds) (hor:(Builtin.firstCells (c.P.cellsOf e) xs.length (.slice base xs.length cap0)).run c.P w.drew=.ok olds.toArray w.drew) (hy:Src c.P (c.P.cellsOf e) TX vy ys.length news w) (hyv:VL c.P g w e ys news)
  (hok:dG c.P e (xs.length+ys.length)) (hgrow:cap0<xs.length+ys.length) (hk:cM c.P s d e xs ys K) :
  ∃u w' s',(Builtin.append_ #[T,TX] ty #[.slice base xs.length cap0,vy]).run c.P w=.ok u w'/\K s'/\zF c s' (a.put (some d) u) w' g β:=by
 obtain⟨hb1,hb2,hz,hp⟩:=hok
 obtain⟨i,hi⟩:=jV hp
 have hisz:i.size=c.P.cellsOf e:=by simp[Program.cellsOf,hi]
 have hiby:i.bytes=c.P.bytesOf e:=by simp[Program.bytesOf,hi]
 have hd1:=h.drew (w.drawn+1)
 obtain⟨z,hzr,hzv⟩:=K9 hz
 have hiz:i.zero=some z:=by
  have:=hzr w
  unfold zeroValue typeInfo at this
  simp[hi]at this
  cases hiz:i.zero with
  | none=>simp_all
  | some z'=>simp_all
 have hfit:Builtin.nextslicecap (xs.length+ys.length) cap0*i.bytes<=281474976710656:=by
  rw[hiby]
  exact Nat.le_trans (Nat.mul_le_mul_right _ (nextslicecap_le hgrow)) hb1
 have hr:=run_append_grow_src w T TX ty e i z hu hi hiz base xs.length cap0 olds (by simp_all) vy ys.length news (by simp_all) hgrow (by omega) hfit
 have hgc:xs.length+ys.length<=grownCap w (xs.length+ys.length) cap0 e:=by
  simp[grownCap,Question.cut]
 generalize grownCap w (xs.length+ys.length) cap0 e=nc at hr hgc
 have hzsz:z.cells.size=c.P.cellsOf e:=by
  have hne:=y5 hl _ _ _ (hzv g w).2
  rw[<-Array.length_toList,wN hl _ _ _ hne (hzv g w).2,jG hl hne]
 have hpos:0<c.P.cellsOf e:=by simp_all[k7]
 have hzl:=K8 (hzv g w).2 hzsz (by omega) (nc-(xs.length+ys.length))
 have hzc:(Builtin.zeroCells z.cells (nc-(xs.length+ys.length))).toList=((Array.range ((nc-(xs.length+ys.length))*c.P.cellsOf e)).map (z.cells[· % z.cells.size]!)).toList:=by
  simp_all[Builtin.zeroCells]
 generalize hrow:((olds++news).toArray++Builtin.zeroCells z.cells (nc-(xs.length+ys.length)))=row at hr
 have hvc:VC c.P g w (.arr nc e) (.agg (xs++ys++List.replicate (nc-(xs.length+ys.length)) (zT c.P e))) row.toList:=by
  grind [VC,yJ]
 obtain⟨h2,h3⟩:=hd1.newH (E:=e) (x:=.agg (xs++ys++List.replicate (nc-(xs.length+ys.length)) (zT c.P e))) (d:=.arr nc e) (cs:=row) (jE (w':={ w with drawn:=w.drawn+1 }) (Gh.le_refl g) h.rep.imm (fun b cs E fz _ hb=>⟨cs,E,fz,hb,rfl,fun _ _=>rfl⟩) _ _ _ hvc) (.inr ⟨_,rfl⟩)
 refine⟨_,_,_,hr,hk _ nc h3 hgc,h2.put (fun _ e=>by simp_all) ?_⟩
 refine⟨rfl,?_⟩
 simp[VC,Value.cells]

include hl h in
theorem zcj {T TX ty e:TypeId} (hT:q9 c.P T=.slice e) {b off len cap:Nat} {ys:List AV} {news:List Value} {vy:Value} {d:Nat} (hd:d<c.n) {K:St->Prop}
  (hy:Src c.P (c.P.cellsOf e) TX vy ys.length news w) (hyv:VL c.P g w e ys news) (hk:U6 c.P s d e b off len cap ys K) :
  ∃u w' s',(Builtin.append_ #[T,TX] ty #[.slice (some ⟨b,off*c.P.cellsOf e,none⟩) len cap,vy]).run c.P w=.ok u w'/\K s'/\zF c s' (a.put (some d) u) w' g β:=by
 unfold U6 at hk
 obtain⟨u,hu,hm⟩:=qO hT (by simp)
 simp only[zP]at hm;subst hm
 cases hh:k8 s.H b with
 | none=>rw[hh]at hk;exact hk.elim
 | some o =>
  rw[hh]at hk
  cases o with
  | map k e es=>exact hk.elim
  | raw _ _ _=>exact hk.elim
  | var d0 x =>
   cases d0<;>try (exact hk.elim)
   cases x<;>try (exact hk.elim)
   rename_i m e' xs
   obtain⟨rfl,hoc,hlc,hok,hroom,hgrow⟩:=hk
   obtain⟨_,cs,hcs,hvc⟩:=h.rep.obj b _ (jA hh)
   have hvc':=hvc
   simp only[VC]at hvc'
   obtain⟨hxm,hvl⟩:=hvc'
   have hsz:=ZD hl _ _ _ hvl
   rw[Array.length_toList]at hsz
   have hnl:news.length=ys.length*c.P.cellsOf e':=hy.newsLen
   obtain⟨i,hi⟩:=jV hok.2.2.2
   have hisz:i.size=c.P.cellsOf e':=by simp[Program.cellsOf,hi]
   by_cases hr:len+ys.length<=cap
   ·have hmul:(off+len+ys.length)*c.P.cellsOf e'<=xs.length*c.P.cellsOf e':=Nat.mul_le_mul_right _ (by omega)
    rw[Nat.add_mul,Nat.add_mul]at hmul
    have hrun:=gE w T TX ty e' i hu hi b (off*c.P.cellsOf e') len cap vy ys.length news (by rw[hisz];exact hy) hcs hr (by rw[hisz,hnl,hsz];omega)
    rw[hisz]at hrun
    have jW:VC c.P g w (.arr m e') (.agg (xs.take (off+len)++ys++xs.drop (off+len+ys.length))) (cs.toList.take (off*c.P.cellsOf e'+len*c.P.cellsOf e')++news++cs.toList.drop (off*c.P.cellsOf e'+len*c.P.cellsOf e'+news.length)).toArray.toList:=by
     simp only[VC]
     refine⟨by simp;omega,?_⟩
     have t1:=JV hl 0 (off+len) hvl (by omega)
     simp only[List.drop_zero,Nat.zero_mul]at t1
     have t2:=JV hl (off+len+ys.length) (xs.length-(off+len+ys.length)) hvl (by omega)
     rw[List.take_of_length_le (by rw[List.length_drop];exact Nat.le_refl _),List.take_of_length_le (by rw[List.length_drop,Array.length_toList,hsz,Nat.sub_mul];exact Nat.le_refl _)]at t2
     rw[<-Nat.add_mul,hnl,<-Nat.add_mul]
     exact yJ (yJ t1 hyv) t2
    refine⟨_,_,_,hrun,hroom hr,(h.setH hh hcs (by simp;omega) jW).put (fun _ e=>by cases e;exact hd) ⟨rfl,?_⟩⟩
    simp[VC,Value.cells]
   ·have hg:=hgrow (by omega)
    obtain⟨h1,h2⟩:=zad hl hl hu (cap:=cap) hcs hvc (by omega:off+len<=m)
    have hlen:((xs.drop off).take len).length=len:=by rw[List.length_take,List.length_drop];omega
    have:=C8 hl h hu (T:=T) (TX:=TX) (ty:=ty) (base:=some ⟨b,off*c.P.cellsOf e',none⟩) (cap0:=cap) (xs:=(xs.drop off).take len) (ys:=ys) hd h2 (by rw[hlen];exact h1.cellsD) hy hyv (by rw[hlen];exact hok) (by rw[hlen];omega) hg
    rw[hlen]at this
    exact this

include hl h in
theorem zcp {T TX ty e:TypeId} (hT:q9 c.P T=.slice e) {ys:List AV} {news:List Value} {vy:Value} {d:Nat} (hd:d<c.n) {K:St->Prop}
  (hy:Src c.P (c.P.cellsOf e) TX vy ys.length news w) (hyv:VL c.P g w e ys news) (hk:VG c.P s d e ys K) :
  ∃u w' s',(Builtin.append_ #[T,TX] ty #[.slice none 0 0,vy]).run c.P w=.ok u w'/\K s'/\zF c s' (a.put (some d) u) w' g β:=by
 obtain⟨hok,h0,h1⟩:=hk
 obtain⟨u,hu,hm⟩:=qO hT (by simp)
 simp only[zP]at hm;subst hm
 by_cases hys:ys=[]
 ·subst hys
  have hn0:news=[]:=by assumption
  subst hn0
  have hc:=hy.cells
  have hle:=hy.len
  obtain⟨i,hi⟩:=jV hok.2.2.2
  have hisz:i.size=c.P.cellsOf e:=by simp[Program.cellsOf,hi]
  simp only[List.length_nil]at hc hle
  have hr:(Builtin.append_ #[T,TX] ty #[.slice none 0 0,vy]).run c.P w=.ok (.slice none 0 0) w:=by
   rcases hy.kind with⟨e',hk'⟩|hk' <;>
    simp[Builtin.append_,run_underlying hu,run_underlying hk',sizeOf,typeInfo,hi,hle,hisz,hc,storeCells]
  exact⟨_,_,_,hr,h0 rfl,h.put (fun _ e=>by simp_all) ⟨rfl,e,rfl,rfl⟩⟩
 ·have hpos:0<ys.length:=List.length_pos_iff.2 hys
  have:=C8 hl h hu (T:=T) (TX:=TX) (ty:=ty) (base:=none) (cap0:=0) (xs:=[]) (ys:=ys) (olds:=[]) hd (by simp[VL]) (by rfl) hy hyv (by simp_all) (by omega) (h1 hpos)
  omega

include hl h in
theorem CU {T:TypeId} {l m:Operand} {d:Nat} (hd:d<c.n) {K:St->Prop} (hk:uI c.P s T (ev s l) (ev s m) d K) :
  ∃u w' s',(Instr.makeSlice T (a.eval l) (a.eval m)).run c.P w=.ok u w'/\K s'/\zF c s' (a.put (some d) u) w' g β:=by
 unfold uI at hk
 cases hT:q9 c.P T<;>rw[hT]at hk<;>try (exact hk.elim)
 rename_i e
 obtain⟨u,hu,hm⟩:=qO hT (by simp)
 simp only[zP]at hm;subst hm
 cases h1:asI (ev s l)with
 | none=>rw[h1]at hk;exact hk.elim
 | some kn =>
  obtain⟨k1,n1⟩:=kn
  cases h2:asI (ev s m)with
  | none=>rw[h1,h2]at hk;exact hk.elim
  | some km =>
   obtain⟨k2,n2⟩:=km
   rw[h1,h2]at hk
   obtain⟨h0,hle,hby,h63,hz,hp,hk⟩:=hk
   rw[wP h1 (qT h l),wP h2 (qT h m)]
   obtain⟨i,hi⟩:=jV hp
   have hisz:i.size=c.P.cellsOf e:=by simp[Program.cellsOf,hi]
   have hiby:i.bytes=c.P.bytesOf e:=by simp[Program.bytesOf,hi]
   obtain⟨z,hzr,hzv⟩:=K9 hz
   have hiz:i.zero=some z:=by
    have:=hzr w
    unfold zeroValue typeInfo at this
    simp[hi]at this
    cases hiz:i.zero with
    | none=>simp[hiz]at this
    | some z'=>simp[hiz]at this;rw[this]
   have hr:=run_make (P:=c.P) w T e i z hu hi hiz k1 k2 n1 n2 h0 hle (by rw[hiby];exact hby) h63
   have hzsz:z.cells.size=c.P.cellsOf e:=by
    have hne:=y5 hl _ _ _ (hzv g w).2
    rw[<-Array.length_toList,wN hl _ _ _ hne (hzv g w).2,jG hl hne]
   have hpos:0<c.P.cellsOf e:=by simpa[k7]using hp
   have hzl:=K8 (hzv g w).2 hzsz (by omega) n2.toNat
   have hvc:VC c.P g w (.arr n2.toNat e) (.agg (List.replicate n2.toNat (zT c.P e))) (madeCells z.cells (n2.toNat*i.size)).toList:=by
    simp only[VC]
    exact⟨by simp,by rw[hisz];exact hzl⟩
   obtain⟨h3,h4⟩:=h.newH (E:=e) (cs:=madeCells z.cells (n2.toNat*i.size)) hvc (.inr ⟨_,rfl⟩)
   refine⟨_,_,_,hr,hk _ h4,h3.put (fun _ e=>by cases e;exact hd) ⟨rfl,?_⟩⟩
   simp[VC,Value.cells]

include hl h in
theorem P0 {T:TypeId} {m k v:Operand} {K:St->Prop} (hk:pL c.P s T (ev s m) (ev s k) (ev s v) K) :
  ∃w' s',(Instr.mapUpdate T (a.eval m) (a.eval k) (a.eval v)).run c.P w=.ok () w'/\K s'/\zF c s' a w' g β:=by
 unfold pL at hk
 cases hT:q9 c.P T<;>rw[hT]at hk<;>simp only at hk<;>try (exact hk.elim)
 rename_i kt e
 obtain⟨u,hu,hm⟩:=qO hT (by simp)
 simp only[zP]at hm;subst hm
 split at hk
 ·rename_i b y z e1 e2 e3
  have hy:=kQ e2 (qT h k)
  have hz:=kQ e3 (qT h v)
  have hmv:=kQ e1 (qT h m)
  split at hk
  ·rename_i k' e' es hh
   obtain⟨rfl,rfl,hs,hk⟩:=hk
   obtain⟨f,hmv⟩:=hmv
   simp only[VC]at hmv
   obtain⟨_,_,_,hmv⟩:=hmv
   rw[qK rfl f]at hmv
   have hmv':a.eval m=.map (some b):=by simp_all
   obtain⟨_,en,ck,hb,hrel,hst⟩:=h.rep.obj b _ (jA hh)
   have hck:(Instr.checkKey false 10000 k' (a.eval k)).run c.P w=.ok () w:=VK hl hs hy _
   have key:∀(q:Option (Nat × Value)),wO (a.eval k) en.toList 0=q->(Instr.findKey k' (a.eval k) en.toList).run c.P w=.ok q w:=fun q hq=>by grind [zb2]
   have jW:∀o,(setObj b o).run c.P w=.ok () (World.setM w b o):=fun o=>MapKept.run_setObj_map o hb
   rw[hmv']
   rcases D3 hs hy 0 hrel with⟨h1,h2,h3⟩|⟨z',j,en',h1,h2,h3,h4,h5,h6⟩
   ·refine⟨_,_,?_,hk,h.setM hh (en:=en.push ⟨a.eval k,a.eval v,ck⟩) (ck:=ck+1) ⟨by simp_all,by simpa using hst.push (a.eval k) (a.eval v)⟩⟩
    unfold Instr.mapUpdate
    simp[run_underlying hu,MapKept.run_getObj_map hb,hck,key _ h2,jW]
   ·have hsame:Instr.sameBits 10000 en'.key (a.eval k)=true:=by
     grind [zoe]
    have hstay:(Instr.keyThatStays en'.key (a.eval k)).run c.P w=.ok (a.eval k) w:=by
     simp_all[Instr.keyThatStays]
    have k8:en[j]?=some en':=by simp_all
    refine⟨_,_,?_,hk,h.setM hh (en:=en.modify j fun x=>{ x with key:=a.eval k,val:=a.eval v }) (ck:=ck) ?_⟩
    ·unfold Instr.mapUpdate
     simp only[Nat.zero_add]at h2
     simp[run_underlying hu,MapKept.run_getObj_map hb,hck,key _ h2,k8,hstay,jW]
    ·have:=h6 _ _ hz
     rw[Array.toList_modify]
     exact⟨this,hst.of_born (cU (f:=fun x=>{ x with key:=a.eval k,val:=a.eval v }) (fun _=>rfl) _ _)⟩
  simp_all
 simp_all

def zju (P:Program) (s:St) (S D:TypeId) (x:TV) (d:Nat) (K:St->Prop):Prop :=
 match q9 P D with
 | .slice e=>q9 P S=.str/\q9 P e=.int .u8/\match asS x with
  | some l=>K (({ s with ver:=upd s.ver d (s.ver d+1) }:St).put (some d) (.av (.slice e) (.sl (.own d (s.ver d+1)) (l.map fun b=>.i .u8 b.toNat))))
  | none=>False
 | _=>False

def zjz (P:Program) (s:St) (S D:TypeId) (x:TV) (d:Nat) (K:St->Prop):Prop :=
 match q9 P D with
 | .slice e=>q9 P S=.str/\q9 P e=.int .u8/\match asS x with
  | some l=>∀b cap,b∉s.H.keys->l.length<=cap->K (({ s with H:=(b,.var (.arr cap e) (.agg ((l.map fun b=>.i .u8 b.toNat)++List.replicate (cap-l.length) (.i .u8 0))))::s.H }:St).put (some d) (.av (.slice e) (.msl b e 0 l.length cap)))
  | none=>False
 | _=>False
theorem zde {P:Program} {g:Gh} {w:World} {e:TypeId} (he:q9 P e=.int .u8):∀n,VL P g w e (List.replicate n (AV.i .u8 0)) (List.replicate n (Value.int .u8 0))
 | 0=>by simp[VL]
 | n+1=>by simp only[List.replicate_succ,VL];exact⟨[_],_,rfl,⟨he,rfl⟩,zde he n⟩
theorem zj3 {P:Program} {g:Gh} {w:World} {e:TypeId}:∀ {xs ys:List AV} {a b:List Value},VL P g w e xs a->VL P g w e ys b->VL P g w e (xs++ys) (a++b)
 | [],ys,a,b,h,h2=>by simp_all[VL]
 | x::xs,ys,a,b,h,h2=>by
  simp only[VL]at h
  obtain⟨c1,c2,rfl,h3,h4⟩:=h
  simp only[List.cons_append,VL]
  exact⟨c1,c2++b,by simp,h3,zj3 h4 h2⟩
include hl h in
theorem zeW {S D:TypeId} {x:Operand} {d:Nat} (hd:d<c.n) {K:St->Prop} (hk:zjz c.P s S D (ev s x) d K) :
  ∃u w' s' g',(convert S D (a.eval x)).run c.P w=.ok u w'/\K s'/\zF c s' (a.put (some d) u) w' g' β:=by
 unfold zjz at hk
 cases hD:q9 c.P D<;>rw[hD]at hk<;>try (exact hk.elim)
 rename_i e
 obtain⟨hS,he,hk⟩:=hk
 obtain⟨u1,hu1,hm1⟩:=qO hS (by simp)
 obtain⟨u2,hu2,hm2⟩:=qO hD (by simp)
 obtain⟨u3,hu3,hm3⟩:=qO he (by simp)
 simp only[zP]at hm1 hm2 hm3;subst hm1;subst hm2;subst hm3
 cases hs:asS (ev s x)with
 | none=>rw[hs]at hk;exact hk.elim
 | some l =>
  rw[hs]at hk
  simp only at hk
  obtain⟨str,hstr,rfl⟩:=KI hs (qT h x)
  rw[hstr]
  have hr:=run_bytes_of_string (P:=c.P) w S D e str hu1 hu2 hu3
  have hgc:str.size<=grownCap w str.size 0 e:=by unfold grownCap;simp[Question.cut]
  generalize grownCap w str.size 0 e=nc at hr hgc
  have hsz:str.data.toList.length=str.size:=by rw[Array.length_toList];rfl
  have hdsz:str.data.size=str.size:=rfl
  have hrsz:(bytesRow str nc).size=nc:=by simp[bytesRow,hdsz];omega
  have hd1:=h.drew (w.drawn+1)
  have hvc:VC c.P g { w with drawn:=w.drawn+1 } (.arr nc e) (.agg ((str.data.toList.map fun b=>.i .u8 b.toNat)++List.replicate (nc-str.data.toList.length) (.i .u8 0))) (bytesRow str nc).toList:=by
   simp only[VC]
   refine⟨by rw[List.length_append,List.length_map,List.length_replicate,hsz];omega,?_⟩
   have e1:(bytesRow str nc).toList=(str.data.toList.map fun b=>Value.int .u8 b.toNat)++List.replicate (nc-str.data.toList.length) (.int .u8 0):=by
    rw[hsz];simp[bytesRow]
   rw[e1]
   exact zj3 (UK he _) (zde he _)
  obtain⟨h3,h4⟩:=hd1.newHF (E:=e) (cs:=bytesRow str nc) ((bytesRow str nc).size,(bytesRow str nc).size+1) (.inr ⟨Nat.le_refl _,_,_,rfl,he⟩) hvc (.inr ⟨_,rfl⟩)
  refine⟨_,_,_,g,hr,hk _ nc h4 (by rw[hsz];exact hgc),h3.put (fun _ e=>by cases e;exact hd) ⟨rfl,?_⟩⟩
  simp[VC,Value.cells,hsz]
include hl h in
theorem zeZ {S D:TypeId} {x:Operand} {d:Nat} (hd:d<c.n) {K:St->Prop} (hk:zju c.P s S D (ev s x) d K) :
  ∃u w' s' g',(convert S D (a.eval x)).run c.P w=.ok u w'/\K s'/\zF c s' (a.put (some d) u) w' g' β:=by
 unfold zju at hk
 cases hD:q9 c.P D<;>rw[hD]at hk<;>try (exact hk.elim)
 rename_i e
 obtain⟨hS,he,hk⟩:=hk
 obtain⟨u1,hu1,hm1⟩:=qO hS (by simp)
 obtain⟨u2,hu2,hm2⟩:=qO hD (by simp)
 obtain⟨u3,hu3,hm3⟩:=qO he (by simp)
 simp only[zP]at hm1 hm2 hm3;subst hm1;subst hm2;subst hm3
 cases hs:asS (ev s x)with
 | none=>rw[hs]at hk;exact hk.elim
 | some l =>
  rw[hs]at hk
  simp only at hk
  obtain⟨str,hstr,rfl⟩:=KI hs (qT h x)
  rw[hstr]
  have hr:=run_bytes_of_string (P:=c.P) w S D e str hu1 hu2 hu3
  have hgc:str.size<=grownCap w str.size 0 e:=by unfold grownCap;simp[Question.cut]
  generalize grownCap w str.size 0 e=nc at hr hgc
  have hc1:c.P.cellsOf e=1:=by rw[jG hl (by rw[he];simp),he];rfl
  have hsz:str.data.toList.length=str.size:=by rw[Array.length_toList];rfl
  have hdsz:str.data.size=str.size:=rfl
  have hrsz:(bytesRow str nc).size=nc:=by simp[bytesRow,hdsz];omega
  have hd1:=h.drew (w.drawn+1)
  generalize hrow:bytesRow str nc=row at hr hrsz
  have hver:∀k,s.ver k<=(upd s.ver d (s.ver d+1)) k:=fun k=>by simp only[upd];split<;>(try subst_vars)<;>omega
  have h1:=(hd1.bump (ver':=upd s.ver d (s.ver d+1)) hver).push (.cells row e (row.size,row.size+1)) str.size (fun _=>⟨row,e,_,rfl,by rw[hrsz];exact hgc⟩)
  have hcells:zU (World.push' { w with drawn:=w.drawn+1 } (.cells row e (row.size,row.size+1))) w.heap.size 0 (str.size*c.P.cellsOf e)=str.data.toList.map fun b=>Value.int .u8 b.toNat:=by
   have e1:=Z0 { w with drawn:=w.drawn+1 } (.cells row e (row.size,row.size+1))
   simp only at e1
   unfold zU
   rw[e1]
   simp only[List.drop_zero,<-hrow,bytesRow,hc1,Nat.mul_one,Array.toList_append]
   rw[List.take_append_of_le_length (by simp[hdsz]),List.take_of_length_le (by simp[hdsz])]
   simp
  have hvl:=UK (P:=c.P) (g:={ g with imm:=upd g.imm w.heap.size str.size }) (w:=World.push' { w with drawn:=w.drawn+1 } (.cells row e (row.size,row.size+1))) he str.data.toList
  rw[<-hcells]at hvl
  obtain⟨g',hg'⟩:=h1.named (d:=d) (v:=s.ver d+1) (b:=w.heap.size) (cap:=nc) (e:=e) (zs:=str.data.toList.map fun b=>.i .u8 b.toNat) hd (h.toknew d _ (Nat.lt_succ_self _)) (by simp[upd])
   ⟨h.step.size,fun hin=>absurd (zhF h.rep hin) (Nat.lt_irrefl _),fun j hj=>by
    cases e':s.loc j with
    | none=>exact absurd e' hj
    | some dy=>obtain⟨d',y⟩:=dy;obtain⟨cs',h2,_⟩:=(h.locs j d' y e').block;exact Nat.ne_of_lt (kR h2),by simp[upd,hc1,hsz],row,⟨e,_,Z0 { w with drawn:=w.drawn+1 } _,.inr ⟨Nat.le_refl _,fun _=>trivial⟩,trivial⟩,by rw[hrsz,hc1,Nat.mul_one]⟩
   (fun j t' hj e'=>by
    have e2:g.γ j (s.ver j)=some t':=by simpa[upd,hj]using e'
    obtain⟨cs',h2,_⟩:=(h.toks j t' e2).block
    exact Nat.ne_of_lt (kR h2)) (by rw[List.length_map,hsz];exact hgc) (by rw[List.length_map,hsz];exact hvl)
  have hv2:upd (upd s.ver d (s.ver d+1)) d (s.ver d+1)=upd s.ver d (s.ver d+1):=by funext j;simp only[upd];split<;>simp_all
  simp only[hv2]at hg'
  refine⟨_,_,_,g',hr,hk,?_⟩
  have hll:(str.data.toList.map fun b=>AV.i .u8 b.toNat).length=str.size:=by rw[List.length_map,hsz]
  rw[hll]at hg'
  exact hg'
end
end Go.Ab
end
section
namespace Go.Ab
open Go
open Classical
variable [Sel]
def fen (rd:Option Nat):Fence:={ Fence.wide with round:=rd }
theorem WT {rd:Option Nat} {n:Nat} {P:Program} {f:FuncId} {args:Array Value} {w:World} {R:Ending->World->Prop}:CallsIn (fen rd) n P f args w R<->Calls P f args w R :=
 show CallsIn Fence.wide n P f args w R<->_ from callsIn_wide
theorem pZ {rd:Option Nat} {n:Nat}:(fen rd).depth.isSome=true->1<=n:=fun h=>by grind [fen,Fence.wide]

theorem ziG {rd:Option Nat} {n:Nat} {P:Program} {row:String} {args:Array Value} {w:World} {R:Value->World->Prop} (h:Rows P row args w R):RowsIn (fen rd) n P row args w R :=
 fun c cs _=>let ⟨v,w',r,s⟩:=h c cs;⟨v,w',r,stepsIn_wide.2 s⟩

theorem zsN {rd:Option Nat} {n:Nat} {P:Program} {o:Oper} {a:Act} {w:World} {next:Act->World->Prop} {Q:Exit->Act->World->Prop} (hd:∀c,o.op≠.defer c) (h:o.wp P a w next Q):o.wpIn (fen rd) n P a w next Q:=by
 refine⟨fun _ _=>trivial,?_⟩
 rw[Oper.semAt_eq _ _ _ hd]
 unfold Oper.wp at h
 generalize (execOp a.eval o).run P w=r at h |-
 cases r with
 | ok x w' =>
  cases x<;>simp only[Oper.upon,Oper.uponIn]at h |-<;>first
   | exact h
   | exact⟨pZ,WT.2 h⟩
   | grind [pZ,ziG]
   | exact h.elim
 | halt x w'=>cases x<;>simp only[Oper.upon,Oper.uponIn]at h |-<;>exact h

def za4 (ops:Array Oper):Bool:=ops.toList.all fun o=>match o.op with|.defer _=>false|_=>true
theorem zeg {ops:Array Oper} (h:za4 ops=true) {i:Nat} {o:Oper} (ho:ops[i]?=some o):∀c,o.op≠.defer c:=by
 intro c hc
 have:=List.all_eq_true.1 h o (by grind)
 simp_all

theorem zkz {rd:Option Nat} {n:Nat} {P:Program} {ops:Array Oper} (hd:za4 ops=true) {Q:Exit->Act->World->Prop} (hQ:¬LetsOut Q) {i:Nat} {K K':Act->World->Prop} (hK:∀a w,K a w->K' a w) {a:Act} {w:World}
  (h:wpOp P ops Q i K a w):wpOpIn (fen rd) n P ops Q i K' a w:=by
 unfold wpOp at h
 unfold wpOpIn
 cases ho:ops[i]? with
 | none=>simp_all
 | some o =>
  rw[ho]at h
  simp only at h |-
  split
  ·rename_i hw
   rw[if_pos hw]at h
   rcases h with h|h
   ·exact Oper.wpIn_mono hK (zsN (zeg hd ho) h)
   simp_all
  ·rename_i hw
   rw[if_neg hw]at h
   exact⟨fun _ _=>trivial,hK _ _ h⟩
theorem zao {rd:Option Nat} {n:Nat} {P:Program} {ops:Array Oper} (hd:za4 ops=true) {Q:Exit->Act->World->Prop} (hQ:¬LetsOut Q):∀(fuel:Nat) (listed:Array Bool) (a:Act) (w:World),wpAny P .any ops Q fuel listed a w->wpAnyIn (fen rd) n P .any ops Q fuel listed a w
 | 0,_,_,_,h=>h
 | fuel+1,listed,a,w,h=>⟨h.1,fun i hi=>zkz hd hQ (fun a w h=>zao hd hQ fuel _ a w h) (h.2 i hi)⟩

section
variable {P:Program} {b:Frame} {a:Act} {k:List Item} {cs:List Frame} {w:World}
theorem K3 {c:Code}:step P (lone (b.atR a (.code (.scope c)::k)) cs w)=.next (lone (b.atR a (.code c::.inScope c::k)) cs w) :=
 step_lone_go (by rfl)
theorem zcl {c:Code}:step P (lone (b.atR a (.inScope c::k)) cs w)=.next (lone (b.atR a k) cs w) :=
 step_lone_go (by rfl)
end
theorem Y4 {F:Fence} {n:Nat} {P:Program} {Q:Exit->Act->World->Prop} {a:Act} {w:World} {c:Code} (h:c.wpIn F n P (Exit.noGoto Q) a w):(Code.scope c).wpIn F n P Q a w:=by
 intro b k cs hro hb hr
 have h0:(lone (b.atR a (.code (.scope c)::k)) cs w).fenced P F:=fenced_calm hb hr rfl
 obtain⟨e,a₁,w₁,hq,harr⟩:=h b (.inScope c::k) cs hro hb hr
 cases e with
 | normal=>exact⟨.normal,a₁,w₁,hq,.head h0 K3 (StepsIn.trans harr (.one (fenced_calm hb hr rfl) zcl))⟩
 | exit id =>
  have hx:exitTo id (.inScope c::k)=exitTo id k:=by simp[exitTo]
  exact⟨.exit id,a₁,w₁,hq,fun k' hk=>.head h0 K3 (harr.1 k' (by simp_all)),
   fun hr' hk=>let ⟨k₁,h1,h2⟩:=harr.2 hr' (by simp_all);⟨k₁,h1,.head h0 K3 h2⟩⟩
 | goto l=>exact hq.elim
 | ret=>exact⟨_,a₁,w₁,hq,.of_steps (.one h0 K3) harr⟩
 | panic ch=>exact⟨_,a₁,w₁,hq,.of_steps (.one h0 K3) harr⟩
 | outgrown=>exact⟨_,a₁,w₁,hq,.of_steps (.one h0 K3) harr⟩
end Go.Ab
end
section
namespace Go.Ab
open Go
open Classical
variable [Sel]
mutual
def zdY:AV->AV
 | .sl t xs=>match t,xs with
  | .full,[]=>.nsl
  | _,_=>.sl t xs
 | .agg ps=>.agg (UC ps)
 | x=>x
def UC:List AV->List AV
 | []=>[]
 | x::xs=>zdY x::UC xs
end
theorem PS:∀xs:List AV,(UC xs).length=xs.length
 | []=>rfl
 | x::xs=>by simp[UC,PS xs]
section
variable {P:Program} {g:Gh} {w:World}
mutual
theorem ze5 (x:AV) (d:TyD) (h:wt P d x=true):VC P g w d (zdY x) (UG x):=by
 cases x with
 | agg ps =>
  cases d<;>simp[wt]at h
  ·simp only[zdY,VC,UG];exact zj8 ps _ h
  ·simp only[zdY,VC,UG];exact⟨by rw[PS];exact h.1,zjl ps _ h.2⟩
 | sl t xs =>
  cases d<;>cases t<;>cases xs<;>simp[wt]at h
  simp[zdY,VC,UG]
 | _=>simp only[zdY];exact za2 _ _ h
theorem zjl (xs:List AV) (e:TypeId) (h:wtl P e xs=true):VL P g w e (UC xs) (xY xs):=by
 cases xs with
 | nil=>simp[VL,xY,UC]
 | cons x xs =>
  simp[wtl]at h
  simp only[VL,xY,UC]
  exact⟨_,_,rfl,ze5 x _ h.1,zjl xs _ h.2⟩
theorem zj8 (xs:List AV) (fs:List TypeId) (h:wtf P fs xs=true):VF P g w fs (UC xs) (xY xs):=by
 cases xs with
 | nil=>simp[wtf]at h;subst h;simp[VF,xY,UC]
 | cons x xs =>
  cases fs with
  | nil=>simp[wtf]at h
  | cons f r =>
   simp[wtf]at h
   simp only[VF,xY,UC]
   exact⟨f,r,_,_,rfl,rfl,ze5 x _ h.1,zj8 xs _ h.2⟩
end
end
def zM (P:Program) (m:Bool) (T:TypeId):AV:=if m=true then zdY (zT P T) else zT P T
theorem zqv {P:Program} {T:TypeId} (m:Bool) (h:zB P T=true):∃z,(∀w,(zeroValue T).run P w=.ok z w)/\(∀g w,VV P g w (q9 P T) (zM P m T) z):=by
 obtain⟨z,h1,h2⟩:=K9 h
 refine⟨z,h1,fun g w=>?_⟩
 unfold zM
 split
 ·have hc:UG (zT P T)=z.cells.toList/\wt P (q9 P T) (zT P T)=true:=by
   unfold zB at h
   split at h
   ·rename_i i hi
    split at h
    ·rename_i z' hz
     simp only[Bool.and_eq_true]at h
     have:=h1 w
     unfold zeroValue typeInfo at this
     simp[hi,hz]at this
     grind [zae]
    ·cases h
   ·cases h
  exact⟨(h2 g w).1,by grind [ze5]⟩
 simp_all
/-! ### an object is let go -/
def zas:q8->Nat->q8
 | [],_=>[]
 | (b',o)::r,b=>if b'=b then r else(b',o)::zas r b
theorem vT:∀(H:q8) (b:Nat),(zas H b).Sublist H
 | [],_=>List.Sublist.refl _
 | (b',o)::r,b=>by
  unfold zas
  split
  ·exact List.sublist_cons_self _ _
  ·exact(vT r b).cons_cons _
theorem zgu:∀ {H:q8} {b:Nat},H.keys.Nodup->b∉(zas H b).keys
 | [],_,_=>by simp[zas,q8.keys]
 | (b',o)::r,b,hn=>by
  simp only[q8.keys,List.map_cons,List.nodup_cons]at hn
  unfold zas
  split
  ·rename_i e;subst e;exact hn.1
  ·rename_i e
   simp only[q8.keys,List.map_cons,List.mem_cons]
   rintro(h|h)
   ·exact e h.symm
   ·exact zgu hn.2 h
theorem zF.lose {c:Ctx} {s:St} {a:Act} {w:World} {g:Gh} {β:Nat->Nat} (h:zF c s a w g β) {b:Nat} (hin:b∈s.H.keys) (h0:g.imm b=0) {ob ob':Obj} (hb:w.heap[b]?=some ob) (hnd:∀ds,ob≠.deferred ds) :
  zF c { s with H:=zas s.H b } a (World.setM w b ob') g β:=by
 have hi:=h.rep.imm
 have hik:jP g w (World.setM w b ob'):=by
  intro b' cs E fz h1 h2
  have hne:b'≠b:=fun e=>by simp_all
  simp_all[zK]
 have hcell:∀ {b':Nat} {cs:Array Value} {Q:TypeId->Prop} {F:Prop},kD w b' cs Q F->b'≠b->kD (World.setM w b ob') b' cs Q F:=by
  intro b' cs Q F ⟨E,fz,h1,h2⟩ hne
  exact⟨E,fz,by simp_all[zK],h2⟩
 have hsub:∀ {x:Nat},x∈(zas s.H b).keys->x∈s.H.keys:=fun hx=>((vT s.H b).map _).subset hx
 have hnot:=zgu (b:=b) h.rep.nodup
 exact {
  defers:=h.defers.of fun D hD=>by
   have hne:D≠b:=fun e=>by simp_all
   simp_all[zK]
  size:=h.size
  env:=fun t=>y8 (Gh.le_refl g) hi hik (fun j d' z e=>⟨z,e,rfl⟩) (h.env t)
  locs:=fun j d' z e=>by
   have L':=h.locs j d' z e
   obtain⟨cs',h1,h2⟩:=L'.block
   have hne:β j≠b:=fun e'=>L'.noH (e'▸hin)
   exact⟨L'.base,fun hx=>L'.noH (hsub hx),L'.imm,cs',hcell h1 hne,jE (Gh.le_refl g) hi hik _ _ _ h2⟩
  inj:=h.inj
  rep:=⟨fun b' hb'=>by
    have hne:b'≠b:=fun e=>by simp_all
    obtain⟨cs',E,fz,h1,h2⟩:=hi b' hb'
    simp_all[zK],h.rep.nodup.sublist ((vT s.H b).map _),fun b' o ho=>by
   have hne:b'≠b:=by
    intro e
    have hx:b'∈(zas s.H b).keys:=List.mem_map.2 ⟨(b',o),ho,rfl⟩
    simp_all
   have hx:=h.rep.obj b' o ((vT s.H b).subset ho)
   cases o with
   | var d x=>obtain⟨h1,cs',h2,h3⟩:=hx;exact⟨h1,cs',hcell h2 hne,jE (Gh.le_refl g) hi hik _ _ _ h3⟩
   | map k' e' es2=>obtain⟨h1,en',ck',h2,h3⟩:=hx;exact⟨h1,en',ck',by simp_all[zK],yI (Gh.le_refl g) hi hik h3⟩
   | raw r2 i2 w2=>obtain⟨h1,h2,h3⟩:=hx;exact⟨h1,by simp_all[zK],yE h3 (Gh.le_refl g) hik⟩,h.rep.tab.keep (Gh.le_refl g) hi hik⟩
  toks:=fun j t e=>by
   have T:=h.toks j t e
   obtain⟨cs',h1,h2⟩:=T.block
   exact⟨T.base,fun hx=>T.noH (hsub hx),T.noLoc,T.imm,cs',hcell h1 (fun e'=>T.noH (e'▸hin)),h2⟩
  tokd:=h.tokd
  toknew:=h.toknew
  step:={
   os:=h.step.os,tape:=h.step.tape,output:=h.step.output,drawn:=h.step.drawn
   size:=by rw[VS];exact h.step.size
   frame:=fun b' hb' hn=>by
    have hne:b'≠b:=fun e=>by
     rw[e]at hb' hn
     rcases h.step.dom b hin with h1|h1
     ·exact hn h1
     ·omega
    rw[zK w b b' _ hne];exact h.step.frame b' hb' hn
   imm:=h.step.imm
   kept:=fun b' cs' E fz h1 h2=>by
    obtain⟨cs2,E2,fz2,h3,h4⟩:=h.step.kept b' cs' E fz h1 h2
    have hne:b'≠b:=fun e=>by have:=h.step.imm b';simp_all
    simp_all[zK]
   dom:=fun b' hb'=>h.step.dom b' (hsub hb') } }
/-! ### a row's bytes as a text -/
def PU:TV->Option (Nat × TypeId × Nat × Nat)
 | .av (.slice _) (.msl b e off len _)=>some (b,e,off,len)
 | _=>none
def znf (P:Program) (s:St) (S D:TypeId) (b:Nat) (e:TypeId) (off len:Nat) (K:TV->Prop):Prop :=
 q9 P S=.slice e/\q9 P D=.str/\q9 P e=.int .u8/\match k8 s.H b with
  | some (.var (.arr m e') (.agg xs))=>e'=e/\off+len<=m/\match bytesOf ((xs.drop off).take len)with
   | some l=>K (.av .str (.s l))
   | none=>False
  | _=>False
theorem zkw {P:Program} {s:St} {g:Gh} {w:World} {β:Nat->Nat} {tv:TV} {v:Value} {b e off len:Nat} (h:PU tv=some (b,e,off,len)) (hv:TVR P s g w β tv v):∃cap,v=.slice (some ⟨b,off*P.cellsOf e,none⟩) len cap:=by
 unfold PU at h
 split at h
 ·rename_i e1 b' e' off' len' cap
  cases h
  obtain⟨f,hv⟩:=hv
  simp only[VC]at hv
  obtain⟨_,hv⟩:=hv
  rw[qK rfl f]at hv
  simp_all
 ·cases h
section
variable {c:Ctx} (hl:laidOutB c.P=true) {s:St} {a:Act} {w:World} {g:Gh} {β:Nat->Nat} (h:zF c s a w g β)
include hl h

theorem zim {S D:TypeId} {tx:TV} {x:Value} (hx:TVR c.P s g w β tx x) {b e off len:Nat} (hm:PU tx=some (b,e,off,len)) {K:TV->Prop} (hv:znf c.P s S D b e off len K) :
  ∃u tu,(convert S D x).run c.P w=.ok u w/\K tu/\TVR c.P s g w β tu u:=by
 obtain⟨hS,hD,he,hv⟩:=hv
 obtain⟨cap,rfl⟩:=zkw hm hx
 obtain⟨u1,hu1,hm1⟩:=qO hS (by simp)
 obtain⟨u2,hu2,hm2⟩:=qO hD (by simp)
 obtain⟨u3,hu3,hm3⟩:=qO he (by simp)
 simp only[zP]at hm1 hm2 hm3;subst hm1;subst hm2;subst hm3
 cases hh:k8 s.H b with
 | none=>rw[hh]at hv;exact hv.elim
 | some o =>
  rw[hh]at hv
  cases o with
  | map k e es=>exact hv.elim
  | raw _ _ _=>exact hv.elim
  | var d0 x =>
   cases d0<;>try (exact hv.elim)
   cases x<;>try (exact hv.elim)
   rename_i m e' xs
   obtain⟨rfl,hle,hv⟩:=hv
   obtain⟨_,cs,⟨E,fz,hc,_⟩,hvc⟩:=h.rep.obj b _ (jA hh)
   simp only[VC]at hvc
   obtain⟨hxm,hvl⟩:=hvc
   have hc1:c.P.cellsOf e'=1:=by rw[jG hl (by rw[he];simp),he];rfl
   have hsub:=JV hl off len hvl (by omega)
   obtain⟨ns,h1,h2,h3⟩:=XU he hsub
   rw[h2]at hv
   simp only at hv
   have hlen:((xs.drop off).take len).length=len:=by rw[List.length_take,List.length_drop];omega
   rw[hlen]at h3
   rw[hc1,Nat.mul_one,Nat.mul_one]at h1
   rw[hc1,Nat.mul_one]
   rw[run_convert_bytes_string w S D e' _ len cap hu1 hu3 hu2]
   have hload:(loadCells ⟨b,off,none⟩ len).run c.P w=.ok (ns.map (Value.int .u8)).toArray w:=by
    have:=run_loadCells_list (P:=c.P) w ⟨b,off,none⟩ (ns.map (Value.int .u8)) (fun j v hj=>by
     have hj':j<ns.length:=by
      have:=(List.getElem?_eq_some_iff.1 hj).1
      simpa using this
     rw[wA,YL hc]
     rw[<-h1]at hj
     simp only[List.getElem?_take,List.getElem?_drop]at hj
     rw[if_pos (by omega)]at hj
     simpa using hj)
    rw[List.length_map,<-h3]at this
    exact this
   rw[run_bytesToString w _ _ _ _ hload,xO]
   refine⟨_,_,rfl,hv,?_⟩
   have:=WM (P:=c.P) (g:=g) (w:=w) (x:=⟨ByteArray.empty.data++(ns.map fun n=>UInt8.ofNat n.toNat).toArray⟩)
   have e0:ByteArray.empty.data=#[]:=rfl
   simp[e0]at this |-
   exact this
end
/-! ### copies -/
def zbH (s:St) (e:TypeId) (b off len:Nat) (ys:List AV) (dst:Option Nat) (K:St->Prop):Prop :=
 match k8 s.H b with
 | some (.var (.arr m e2) (.agg xs))=>e2=e/\off+len<=m/\K (({ s with H:=jW s.H b (.var (.arr m e) (.agg (xs.take off++ys++xs.drop (off+ys.length)))) }:St).put dst (.av (.int .i64) (.i .i64 ys.length)))
 | _=>False
def zjc (P:Program) (s:St) (e TX:TypeId) (x y:TV) (dst:Option Nat) (K:St->Prop):Prop :=
 match co (.slice e) x with
 | some (.msl b e' off len _)=>e'=e/\match q9 P TX with
  | .str=>match asS y with
   | some l=>q9 P e=.int .u8/\zbH s e b off len ((l.take len).map fun b=>.i .u8 b.toNat) dst K
   | none=>False
  | _=>JP P s e TX y fun ys=>ys.length<=len/\k7 P e=true/\zbH s e b off len ys dst K
 | _=>False
def zdV (P:Program) (s:St) (e TX:TypeId) (x y:TV) (dst:Option Nat) (K:St->Prop):Prop :=
 match co (.slice e) x with
 | some (.msl b e' off len _)=>e'=e/\q9 P TX=.slice e/\k7 P e=true/\match co (.slice e) y with
  | some (.msl b2 e2 off2 len2 _)=>e2=e/\match k8 s.H b2 with
   | some (.var (.arr m e3) (.agg xs))=>e3=e/\off2+len2<=m/\zbH s e b off len ((xs.drop off2).take (min len2 len)) dst K
   | _=>False
  | _=>False
 | _=>False
section
variable {c:Ctx} (hl:laidOutB c.P=true) {s:St} {a:Act} {w:World} {g:Gh} {β:Nat->Nat} (h:zF c s a w g β)
include hl h

theorem UM {T TX ty e:TypeId} (hu:c.P.underlying T=some (.slice e)) {i:TypeInfo} (hi:c.P.info? e=some i) {b off len cap n0:Nat} {ys:List AV} {news:List Value} {vy:Value} {dst:Option Nat} (hd:∀d,dst=some d->d<c.n) {K:St->Prop}
  (hlen:∀w',(Builtin.lenOf vy).run c.P w'=.ok n0 w') (hmin:Nat.min n0 len=ys.length) (hf:(Builtin.firstCells i.size ys.length vy).run c.P w=.ok news.toArray w) (hone:∀u∈news,u.oneCell'=true) (hyv:VL c.P g w e ys news) (hk:zbH s e b off len ys dst K) :
  ∃u w' s',(Builtin.copy_ #[T,TX] ty #[.slice (some ⟨b,off*c.P.cellsOf e,none⟩) len cap,vy]).run c.P w=.ok u w'/\K s'/\zF c s' (a.put dst u) w' g β:=by
 have hisz:i.size=c.P.cellsOf e:=by simp[Program.cellsOf,hi]
 have hnl:news.length=ys.length*c.P.cellsOf e:=ZD hl _ _ _ hyv
 unfold zbH at hk
 cases hh:k8 s.H b with
 | none=>rw[hh]at hk;exact hk.elim
 | some o =>
  rw[hh]at hk
  cases o with
  | map k e es=>exact hk.elim
  | raw _ _ _=>exact hk.elim
  | var d0 x =>
   cases d0<;>try (exact hk.elim)
   cases x<;>try (exact hk.elim)
   rename_i m e' xs
   obtain⟨rfl,hle,hk⟩:=hk
   obtain⟨_,cs,hcs,hvc⟩:=h.rep.obj b _ (jA hh)
   have hvc':=hvc
   simp only[VC]at hvc'
   obtain⟨hxm,hvl⟩:=hvc'
   have hsz:=ZD hl _ _ _ hvl
   rw[Array.length_toList]at hsz
   have hyl:ys.length<=len:=by rw[<-hmin];exact Nat.min_le_right _ _
   have hmul:(off+ys.length)*c.P.cellsOf e'<=xs.length*c.P.cellsOf e':=Nat.mul_le_mul_right _ (by omega)
   rw[Nat.add_mul]at hmul
   have hcs0:=hcs
   obtain⟨E,fz,hc1,hc2⟩:=hcs
   have hst:=y3 (P:=c.P) b (off*c.P.cellsOf e') E fz news 0 cs w hc1 (hc2.1.imp_right And.left) (by rw[hnl,hsz];omega) hone
   simp only[Nat.add_zero]at hst
   have hrun:(Builtin.copy_ #[T,TX] ty #[.slice (some ⟨b,off*c.P.cellsOf e',none⟩) len cap,vy]).run c.P w=.ok (.int .i64 ys.length) (w.setRow b (cs.toList.take (off*c.P.cellsOf e')++news++cs.toList.drop (off*c.P.cellsOf e'+news.length)).toArray):=by
    have hfl:i.size=i.size:=rfl
    simp only[Builtin.copy_,List.getElem?_toArray,List.getElem?_cons_zero,List.getElem?_cons_succ,Sem.run_bind,run_underlying hu,Result.andThen_ok,hlen,hmin,sizeOf,typeInfo,Sem.run_pure]
    simp[Sem.run_bind,hi,hf,hst,goInt]
   have jW:VC c.P g w (.arr m e') (.agg (xs.take off++ys++xs.drop (off+ys.length))) (cs.toList.take (off*c.P.cellsOf e')++news++cs.toList.drop (off*c.P.cellsOf e'+news.length)):=by
    simp only[VC]
    refine⟨by simp;omega,?_⟩
    have t1:=JV hl 0 off hvl (by omega)
    simp only[List.drop_zero,Nat.zero_mul]at t1
    have t2:=JV hl (off+ys.length) (xs.length-(off+ys.length)) hvl (by omega)
    rw[List.take_of_length_le (by rw[List.length_drop];exact Nat.le_refl _),List.take_of_length_le (by rw[List.length_drop,Array.length_toList,hsz,Nat.sub_mul];exact Nat.le_refl _)]at t2
    rw[hnl,<-Nat.add_mul]
    exact yJ (yJ t1 hyv) t2
   refine⟨_,_,_,hrun,hk,(h.setH hh hcs0 (by simp;omega) jW).put hd kT⟩

theorem zhT {T TX ty e:TypeId} (hT:q9 c.P T=.slice e) {tx ty':TV} {vx vy:Value} (hx:TVR c.P s g w β tx vx) (hy:TVR c.P s g w β ty' vy) {dst:Option Nat} (hd:∀d,dst=some d->d<c.n) {K:St->Prop}
  (hk:zjc c.P s e TX tx ty' dst K):∃u w' s',(Builtin.copy_ #[T,TX] ty #[vx,vy]).run c.P w=.ok u w'/\K s'/\zF c s' (a.put dst u) w' g β:=by
 unfold zjc at hk
 obtain⟨u,hu,hm⟩:=qO hT (by simp)
 simp only[zP]at hm;subst hm
 cases hc:co (.slice e) tx with
 | none=>rw[hc]at hk;exact hk.elim
 | some ax =>
  rw[hc]at hk
  have hv:=kQ hc hx
  cases ax<;>try (exact hk.elim)
  rename_i b e' off len cap
  obtain⟨rfl,hk⟩:=hk
  obtain⟨f,hv⟩:=hv
  simp only[VC]at hv
  obtain⟨_,hv⟩:=hv
  rw[qK rfl f]at hv
  have hx':vx=.slice (some ⟨b,off*c.P.cellsOf e',none⟩) len cap:=by simpa using hv
  subst hx'
  have other:JP c.P s e' TX ty' (fun ys=>ys.length<=len/\k7 c.P e'=true/\zbH s e' b off len ys dst K)->∃u w' s',(Builtin.copy_ #[T,TX] ty #[.slice (some ⟨b,off*c.P.cellsOf e',none⟩) len cap,vy]).run c.P w=.ok u w'/\K s'/\zF c s' (a.put dst u) w' g β:=by
   intro hk
   obtain⟨ys,news,⟨hle,hp,hk⟩,hsrc,hvl⟩:=WC hl h hy hk
   obtain⟨i,hi⟩:=jV hp
   have hisz:i.size=c.P.cellsOf e':=by simp[Program.cellsOf,hi]
   exact UM hl h hu hi hd hsrc.len (Nat.min_eq_left hle) (by rw[hisz];exact hsrc.cells) hsrc.one hvl hk
  cases hTX:q9 c.P TX<;>rw[hTX]at hk<;>try (exact other hk)
  simp only at hk
  cases hs:asS ty' with
  | none=>rw[hs]at hk;exact hk.elim
  | some l =>
   rw[hs]at hk
   obtain⟨he,hk⟩:=hk
   obtain⟨str,rfl,rfl⟩:=KI hs hy
   have hp:k7 c.P e'=true:=by
    have:c.P.cellsOf e'=1:=by rw[jG hl (by rw[he];simp),he];rfl
    simp[k7,this]
   obtain⟨i,hi⟩:=jV hp
   have hisz:i.size=c.P.cellsOf e':=by simp[Program.cellsOf,hi]
   have hc1:c.P.cellsOf e'=1:=by rw[jG hl (by rw[he];simp),he];rfl
   have hsz:str.data.toList.length=str.size:=by rw[Array.length_toList];rfl
   refine UM hl h hu hi hd (n0:=str.size) (fun _=>rfl) ?_ (news:=(str.data.toList.take len).map fun b=>Value.int .u8 b.toNat) ?_ ?_ (UK he _) hk
   ·simp only[List.length_map,List.length_take,hsz];exact Nat.min_comm _ _
   ·rw[hisz,hc1]
    simp only[List.length_map,List.length_take,hsz,Builtin.firstCells,Sem.run_pure]
    congr 1
    apply Array.ext'
    simp only[Array.toList_map,ByteArray.data_extract,Array.toList_extract,List.extract,List.drop_zero,Nat.sub_zero]
    congr 1
    rw[Nat.min_def]
    split
    ·rfl
    ·rw[List.take_of_length_le (by rw[hsz];exact Nat.le_refl _),List.take_of_length_le (by rw[hsz];omega)]
   ·intro u hu'
    obtain⟨_,_,rfl⟩:=List.mem_map.1 hu'
    rfl

theorem zgY {T TX ty e:TypeId} (hT:q9 c.P T=.slice e) {tx ty':TV} {vx vy:Value} (hx:TVR c.P s g w β tx vx) (hy:TVR c.P s g w β ty' vy) {dst:Option Nat} (hd:∀d,dst=some d->d<c.n) {K:St->Prop}
  (hk:zdV c.P s e TX tx ty' dst K):∃u w' s',(Builtin.copy_ #[T,TX] ty #[vx,vy]).run c.P w=.ok u w'/\K s'/\zF c s' (a.put dst u) w' g β:=by
 unfold zdV at hk
 obtain⟨u,hu,hm⟩:=qO hT (by simp)
 simp only[zP]at hm;subst hm
 cases hc:co (.slice e) tx with
 | none=>rw[hc]at hk;exact hk.elim
 | some ax =>
  rw[hc]at hk
  have hv:=kQ hc hx
  cases ax<;>try (exact hk.elim)
  rename_i b e' off len cap
  obtain⟨rfl,hTX,hp,hk⟩:=hk
  obtain⟨u2,hu2,hm2⟩:=qO hTX (by simp)
  simp only[zP]at hm2;subst hm2
  obtain⟨f,hv⟩:=hv
  simp only[VC]at hv
  obtain⟨_,hv⟩:=hv
  rw[qK rfl f]at hv
  have hx':vx=.slice (some ⟨b,off*c.P.cellsOf e',none⟩) len cap:=by simpa using hv
  subst hx'
  cases hc2:co (.slice e') ty' with
  | none=>rw[hc2]at hk;exact hk.elim
  | some ay =>
   rw[hc2]at hk
   have hv2:=kQ hc2 hy
   cases ay<;>try (exact hk.elim)
   rename_i b2 e2 off2 len2 cap2
   obtain⟨rfl,hk⟩:=hk
   obtain⟨f2,hv2⟩:=hv2
   simp only[VC]at hv2
   obtain⟨_,hv2⟩:=hv2
   rw[qK rfl f2]at hv2
   have hy':vy=.slice (some ⟨b2,off2*c.P.cellsOf e2,none⟩) len2 cap2:=by simpa using hv2
   subst hy'
   cases hh:k8 s.H b2 with
   | none=>rw[hh]at hk;exact hk.elim
   | some o =>
    rw[hh]at hk
    cases o with
    | map k e es=>exact hk.elim
    | raw _ _ _=>exact hk.elim
    | var d0 x =>
     cases d0<;>try (exact hk.elim)
     cases x<;>try (exact hk.elim)
     rename_i m e3 xs
     obtain⟨rfl,hle,hk⟩:=hk
     obtain⟨_,cs,hcs,hvc⟩:=h.rep.obj b2 _ (jA hh)
     have hml:min len2 len<=len2:=Nat.min_le_left _ _
     obtain⟨h1,h2⟩:=zad hl hl hu2 (cap:=cap2) hcs hvc (by omega:off2+min len2 len<=m)
     have hlen:((xs.drop off2).take (min len2 len)).length=min len2 len:=by
      simp only[VC]at hvc
      rw[List.length_take,List.length_drop];omega
     obtain⟨i,hi⟩:=jV hp
     have hisz:i.size=c.P.cellsOf e3:=by simp[Program.cellsOf,hi]
     refine UM hl h hu hi hd (n0:=len2) (fun _=>rfl) (by rw[hlen]) (by rw[hisz,hlen];exact h1.cells) h1.one h2 hk
end
/-! ### a pointer and the unsafe one -/
def zsB (P:Program) (S D:TypeId) (d:TyD):Bool:=decide (0<szD P d)&&(match P.underlying S,P.underlying D with
 | some (.pointer t),some .unsafePointer=>(P.info? t).isSome&&decide (q9 P t=d)&&(q9 P t != .other)
 | some .unsafePointer,some (.pointer u)=>(P.info? u).isSome&&(match d with|.struct _=>true|_=>false)&&(List.range P.types.size).all (fun E=>!decide (q9 P E=d)||liesAt P P.depth E 1 0 u 1)
 | _,_=>false)
def zpK (P:Program) (s:St) (S D:TypeId) (x:TV) (K:TV->Prop):Prop :=
 match x with
 | .av .ptr (.ptr b d [])=>match k8 s.H b with
  | some (.var d' _)=>d'=d/\zsB P S D d=true/\K (.av .ptr (.ptr b d []))
  | _=>False
 | _=>False
theorem zkW {c:Ctx} (hl:laidOutB c.P=true) {s:St} {a:Act} {w:World} {g:Gh} {β:Nat->Nat} (h:zF c s a w g β) {S D:TypeId} {tx:TV} {x:Value} (hx:TVR c.P s g w β tx x) {K:TV->Prop} (hv:zpK c.P s S D tx K) :
  ∃u tu,(convert S D x).run c.P w=.ok u w/\K tu/\TVR c.P s g w β tu u:=by
 unfold zpK at hv
 split at hv
 ·rename_i b d
  have hx0:=hx
  obtain⟨f,hx⟩:=hx
  simp only[VC]at hx
  obtain⟨_,off,t,ho,hx⟩:=hx
  simp only[Z7,Option.some.injEq,Prod.mk.injEq]at ho
  obtain⟨rfl,rfl⟩:=ho
  rw[qK rfl f]at hx
  simp only[List.cons.injEq,and_true]at hx
  subst hx
  split at hv
  ·rename_i d' y hh
   obtain⟨rfl,hb,hk⟩:=hv
   obtain⟨_,cs,⟨E,fz,hc,_,hE⟩,hvc⟩:=h.rep.obj b _ (jA hh)
   have hd':d'≠.other:=y5 hl _ _ _ hvc
   have hsz:=wN hl _ _ _ hd' hvc
   rw[Array.length_toList]at hsz
   have hsh:w.shape? b=some (E,cs.size):=by simp[World.shape?,hc]
   unfold zsB at hb
   simp only[Bool.and_eq_true,decide_eq_true_eq]at hb
   obtain⟨h0,hb⟩:=hb
   split at hb
   ·rename_i t hS hD
    simp only[Bool.and_eq_true,decide_eq_true_eq,bne_iff_ne,ne_eq]at hb
    obtain⟨⟨hi,ht⟩,hne⟩:=hb
    obtain⟨j,hj⟩:=Option.isSome_iff_exists.1 hi
    have hjs:j.size=szD c.P d':=by
     have:=jG hl hne
     simp_all[Program.cellsOf]
    grind [Lib.run_to_unsafe]
   ·rename_i u hS hD
    simp only[Bool.and_eq_true,List.all_eq_true,Bool.or_eq_true,Bool.not_eq_true',decide_eq_false_iff_not]at hb
    obtain⟨⟨hi,hst⟩,hall⟩:=hb
    obtain⟨j,hj⟩:=Option.isSome_iff_exists.1 hi
    have hEd:q9 c.P E=d':=by
     rcases hE with hE|⟨m,hE⟩
     ·exact hE
     simp_all
    grind [J3,jG,Lib.run_from_unsafe,Nat.div_self]
   ·cases hb
  simp_all
 simp_all
/-! ### a row's bytes, taken over as a text -/
def zso (P:Program) (T e:TypeId):Bool:=match P.underlying T with
 | some (.pointer e')=>decide (e'=e)&&decide (q9 P e=.int .u8)
 | _=>false
def zj2 (P:Program) (s:St) (T:TypeId) (p n:TV) (d:Nat) (K:St->Prop):Prop :=
 match asI n with
 | some (_,k)=>match p with
  | .cst (.pointer none)=>k=0/\K (s.put (some d) (.av .str (.s [])))
  | .av .ptr (.ptr b (.arr _ e) [off])=>off=0/\zso P T e=true/\0<=k/\k<=9223372036854775807/\match k8 s.H b with
   | some (.var (.arr m e') (.agg xs))=>e'=e/\k.toNat<=m/\match bytesOf (xs.take k.toNat)with
    | some l=>K (({ s with H:=zas s.H b }:St).put (some d) (.av .str (.s l)))
    | none=>False
   | _=>False
  | _=>False
 | none=>False
def qR (P:Program) (g:FuncId):Bool :=
 match P.funcs[g]? with
 | some fn=>fn.name != "runtime.NumGoroutine" && fn.body.isSome
 | none=>false
theorem zhA {P:Program} {e:TypeId} (hc:P.cellsOf e=1) {E m n:Nat} (hE:E=e\/(q9 P E=.arr m e/\P.cellsOf E=m)) (hn:n<=m) (h0:0<n):liesAt P P.depth E (m / P.cellsOf E) 0 e n=true:=by
 have hs:∀d,sameLayout P (d+1) e e=true:=fun d=>by simp[sameLayout]
 obtain⟨k,hk⟩:∃k,P.depth=k+2:=⟨P.depth-2,by rfl⟩
 rcases hE with rfl|⟨hE,hcE⟩
 ·simp_all[liesAt,rowAt]
 ·rw[hcE,hk,liesAt]
  simp only[Bool.or_eq_true]
  left
  obtain⟨u,hu,hm⟩:=qO hE (by simp)
  simp only[zP]at hm;subst hm
  have hm0:m≠0:=by omega
  rw[hk,rowAt]
  simp only[hcE,hm0,if_false,Nat.zero_div,Nat.zero_mod,Nat.div_self (by omega:0<m),hu,Bool.or_eq_true]
  simp_all[rowAt]
theorem zf4 {w:World} {b n:Nat} {cs:Array Value} {E:TypeId} {fz:Nat × Nat} (hc:w.heap[b]?=some (.cells cs E fz)) (hn:n≠0):∃fz',w.freeze ⟨b,0,none⟩ n=World.setM w b (.cells cs E fz'):=by
 obtain⟨lo,hi⟩:=fz
 refine⟨if lo==hi then(0,0+n) else(min lo 0,max hi (0+n)),?_⟩
 unfold World.freeze World.setM
 rw[if_neg hn]
 congr 1
 grind
theorem zhn {c:Ctx} (hl:laidOutB c.P=true) {s:St} {a:Act} {w:World} {g:Gh} {β:Nat->Nat} (h:zF c s a w g β) {T it ty:TypeId} {tp tn:TV} {vp vn:Value} (hp:TVR c.P s g w β tp vp) (hn:TVR c.P s g w β tn vn) {d:Nat} (hd:d<c.n) {K:St->Prop}
  (hv:zj2 c.P s T tp tn d K):∃u w' s',(Builtin.unsafeString_ #[T,it] ty #[vp,vn]).run c.P w=.ok u w'/\K s'/\zF c s' (a.put (some d) u) w' g β:=by
 have hput:∀d',some d=some d'->d'<c.n:=fun _ e=>by cases e;exact hd
 unfold zj2 at hv
 cases hi:asI tn with
 | none=>rw[hi]at hv;exact hv.elim
 | some kn =>
  obtain⟨kd,k⟩:=kn
  rw[hi]at hv
  simp only at hv
  obtain rfl:=wP hi hn
  have hmax:IntKind.i64.max=9223372036854775807:=rfl
  split at hv
  ·obtain⟨rfl,hk⟩:=hv
   obtain rfl:vp=.pointer none:=hp
   refine⟨.string .empty,w,_,?_,hk,h.put hput (WM (x:=.empty))⟩
   have hdef:Builtin.unsafeString_ #[T,it] ty #[.pointer none,.int kd 0] =
    (do
     let n <-asInt (.int kd 0)
     if n<0 then runtimePanic (.error "unsafe.String: len out of range")
     if n > IntKind.i64.max then unsupported (.unsafePointer "String: a length above the largest int")
     if n=0 then pure (.string .empty)
     else runtimePanic (.error "unsafe.String: ptr is nil and len is not zero")):=rfl
   rw[hdef]
   simp[asInt,asIntOf,hmax]
  ·rename_i b m0 e off
   obtain⟨rfl,hub,hk0,hkm,hv⟩:=hv
   obtain⟨f,hp⟩:=hp
   simp only[VC]at hp
   obtain⟨_,off,t,ho,hp⟩:=hp
   simp only[Z7,Option.map_some,Option.some.injEq,Prod.mk.injEq]at ho
   obtain⟨ho,_⟩:=ho
   have hoff:off=0:=by rw[<-ho];simp
   subst hoff
   rw[qK rfl f]at hp
   simp only[List.cons.injEq,and_true]at hp
   subst hp
   cases hh:k8 s.H b with
   | none=>rw[hh]at hv;exact hv.elim
   | some o =>
    rw[hh]at hv
    cases o with
    | map k e es=>exact hv.elim
    | raw _ _ _=>exact hv.elim
    | var d0 x =>
     cases d0<;>try (exact hv.elim)
     cases x<;>try (exact hv.elim)
     rename_i m e' xs
     obtain⟨rfl,hle,hv⟩:=hv
     obtain⟨h00,cs,⟨E,fz,hc,hnf,hE⟩,hvc⟩:=h.rep.obj b _ (jA hh)
     have hin:b∈s.H.keys:=List.mem_map.2 ⟨_,jA hh,rfl⟩
     simp only[VC]at hvc
     obtain⟨hxm,hvl⟩:=hvc
     unfold zso at hub
     split at hub
     ·rename_i e2 hu
      simp only[Bool.and_eq_true,decide_eq_true_eq]at hub
      obtain⟨rfl,he⟩:=hub
      have hc1:c.P.cellsOf e2=1:=by rw[jG hl (by rw[he];simp),he];rfl
      have hsz:=ZD hl _ _ _ hvl
      rw[Array.length_toList,hc1,Nat.mul_one]at hsz
      have hsub:=JV hl 0 k.toNat hvl (by omega)
      rw[hc1]at hsub
      simp only[List.drop_zero,Nat.zero_mul,Nat.mul_one]at hsub
      obtain⟨ns,h1,h2,h3⟩:=XU he hsub
      rw[h2]at hv
      simp only at hv
      have hlen:(xs.take k.toNat).length=k.toNat:=by rw[List.length_take];omega
      rw[hlen]at h3
      by_cases hz:k=0
      ·subst hz
       have hns:ns=[]:=List.eq_nil_of_length_eq_zero (by simpa using h3.symm)
       subst hns
       have hdef:Builtin.unsafeString_ #[T,it] ty #[.pointer (some ⟨b,0,none⟩),.int kd 0] =
         (do
          let n <-asInt (.int kd 0)
          if n<0 then runtimePanic (.error "unsafe.String: len out of range")
          if n > IntKind.i64.max then unsupported (.unsafePointer "String: a length above the largest int")
          if n=0 then pure (.string .empty)
          else if <-variablesAt ⟨b,0,none⟩ (<-elemOf T) n.toNat then do
           let s <-loadBytes ⟨b,0,none⟩ .empty n.toNat
           freeze ⟨b,0,none⟩ n.toNat
           pure (.string s)
          else unsupported (.unsafePointer "String: not so many bytes at ptr")):=rfl
       refine⟨.string .empty,w,_,?_,hv,(h.subH (HSub.of_sub (vT s.H b))).put hput (WM (x:=.empty))⟩
       rw[hdef]
       simp[asInt,asIntOf,hmax]
      ·have hk1:0<k.toNat:=by omega
       obtain⟨l,hl2⟩:∃l:List UInt8,l=ns.map fun n=>UInt8.ofNat n.toNat:=⟨_,rfl⟩
       have hll:l.length=k.toNat:=by rw[hl2,List.length_map,h3]
       have hns:∀n∈ns,(n:Int)=((UInt8.ofNat n.toNat).toNat:Int)->True:=fun _ _ _=>trivial
       have hcell:∀j x,ns[j]?=some x->w.cell? ((⟨b,0,none⟩:Addr).add j)=some (.int .u8 x):=by
        intro j x hj
        have hj':=(List.getElem?_eq_some_iff.1 hj).1
        rw[wA,YL hc]
        have h5:(cs.toList.take k.toNat)[j]?=some (.int .u8 x):=by rw[h1,List.getElem?_map,hj];rfl
        rw[List.getElem?_take,if_pos (by omega)]at h5
        simpa using h5
       have hload:∀(ns':List Int) (j:Nat) (acc:ByteArray),(∀i x,ns'[i]?=some x->w.cell? ((⟨b,0,none⟩:Addr).add (j+i))=some (.int .u8 x))->
         (loadBytes ((⟨b,0,none⟩:Addr).add j) acc ns'.length).run c.P w=.ok (ns'.foldl (fun r n=>r.push (UInt8.ofNat n.toNat)) acc) w:=by
        intro ns'
        induction ns' with
        | nil=>intro j acc _;rfl
        | cons x r ih =>
         intro j acc hcl
         have hx0:=hcl 0 x rfl
         simp only[Nat.add_zero]at hx0
         have hadd:((⟨b,0,none⟩:Addr).add j).add 1=(⟨b,0,none⟩:Addr).add (j+1):=by
          simp[wA]
         have hi':=ih (j+1) (acc.push (UInt8.ofNat x.toNat)) (fun i y hi=>by
          have:=hcl (i+1) y (by simpa using hi)
          rw[show j+1+i=j+(i+1) by omega];exact this)
         simp only[List.length_cons,loadBytes,Sem.run_bind]
         rw[run_load,hx0]
         simp only[Result.andThen_ok,List.foldl_cons,hadd]
         exact hi'
       have hlb:=hload ns 0 .empty (fun i x hi=>by rw[Nat.zero_add];exact hcell i x hi)
       rw[wA,Nat.add_zero,<-h3,xO]at hlb
       have hsh:w.shape? b=some (E,cs.size):=by simp[World.shape?,hc]
       have hEE:E=e2\/(q9 c.P E=.arr cs.size e2/\c.P.cellsOf E=cs.size):=by
        rcases hE with hE|⟨m',hE⟩
        ·right
         have:m=cs.size:=by omega
         rw[<-this]
         refine⟨hE,?_⟩
         rw[jG hl (by rw[hE];simp),hE]
         simp[szD,hc1]
        ·left;cases hE;rfl
       have hlies:=zhA (P:=c.P) hc1 (n:=k.toNat) hEE (by omega) hk1
       obtain⟨fz',hfz⟩:=zf4 (w:=w) (b:=b) (n:=k.toNat) hc (by omega)
       have hdef:Builtin.unsafeString_ #[T,it] ty #[.pointer (some ⟨b,0,none⟩),.int kd k] =
         (do
          let n <-asInt (.int kd k)
          if n<0 then runtimePanic (.error "unsafe.String: len out of range")
          if n > IntKind.i64.max then unsupported (.unsafePointer "String: a length above the largest int")
          if n=0 then pure (.string .empty)
          else if <-variablesAt ⟨b,0,none⟩ (<-elemOf T) n.toNat then do
           let s <-loadBytes ⟨b,0,none⟩ .empty n.toNat
           freeze ⟨b,0,none⟩ n.toNat
           pure (.string s)
          else unsupported (.unsafePointer "String: not so many bytes at ptr")):=rfl
       refine⟨.string ⟨ByteArray.empty.data++(ns.map fun n=>UInt8.ofNat n.toNat).toArray⟩,World.setM w b (.cells cs E fz'),_,?_,hv,(h.lose hin h00 hc (fun _ e=>by cases e)).put hput ?_⟩
       ·rw[hdef]
        have hneg:¬k<0:=by omega
        have hbig:¬(9223372036854775807:Int)<k:=by omega
        simp[asInt,asIntOf,hmax,hbig,hneg,hz,variablesAt,hsh,elemOf,run_underlying hu,hlies,hlb,hfz]
       ·have:=WM (P:=c.P) (g:=g) (w:=World.setM w b (.cells cs E fz')) (x:=⟨ByteArray.empty.data++(ns.map fun n=>UInt8.ofNat n.toNat).toArray⟩)
        have e0:ByteArray.empty.data=#[]:=rfl
        simp[e0]at this |-
        exact this
     ·cases hub
  ·exact hv.elim
/-! ### functions without a text -/
def qX (P:Program):Operand->Bool
 | .func g=>match P.funcs[g]? with
  | some fn=>fn.body.isNone
  | none=>false
 | _=>false
def zsD (P:Program):Operand->Prop
 | .func g=>∃fn,P.funcs[g]?=some fn/\(fn.name == "runtime.NumGoroutine")=false/\fn.body.isNone=true/\Extern.findNext fn=none/\Extern.find fn=some Extern.AbiNoEscape.same
 | _=>False
theorem zmV {P:Program} {t:Nat}:qX P (.tmp t)=false:=rfl
theorem W5 {P:Program} {g:FuncId} (h:qR P g=true):qX P (.func g)=false:=by
 unfold qR at h
 simp only[qX]
 cases hf:P.funcs[g]? with
 | none=>simp
 | some fn =>
  simp_all
def ztj (P:Program) (e:TypeId):Operand->Prop
 | .func g=>∃fn tS tR,P.funcs[g]?=some fn/\(fn.name == "runtime.NumGoroutine")=false/\fn.body.isNone=true/\Extern.findNext fn=none/\Extern.find fn=some (Extern.SlicesOverlaps.overlaps #[tS,tS] #[tR])/\q9 P tS=.slice e
 | _=>False
def ovV (P:Program) (s:St) (f:Operand) (x y:TV):Prop :=
 match x,y with
 | .av _ (.msl b1 e _ _ _),.av _ (.msl b2 e' _ _ _)=>e'=e/\b1≠b2/\ztj P e f/\k7 P e=true/\q9 P e≠.int .u8/\match k8 s.H b1,k8 s.H b2 with
  | some (.var (.arr _ e1) _),some (.var (.arr m2 e2) _)=>e1=e/\e2=e/\0<m2
  | _,_=>False
 | _,_=>False
def zsg (P:Program):Operand->Bool
 | .func g=>match P.funcs[g]? with
  | some fn=>fn.name == "internal/bytealg.Compare"
  | none=>false
 | _=>false
def zsh (P:Program):Operand->Prop
 | .func g=>∃fn,P.funcs[g]?=some fn/\(fn.name == "runtime.NumGoroutine")=false/\fn.body.isNone=true/\Extern.findNext fn=none/\Extern.find fn=some Extern.BytealgCompare.compare
 | _=>False
def znd (P:Program) (s:St) (f:Operand) (x y:TV) (K:Int->Prop):Prop :=
 match x,y with
 | .av _ (.msl b1 e1 o1 l1 _),.av _ (.msl b2 e2 o2 l2 _)=>zsh P f/\q9 P e1=.int .u8/\q9 P e2=.int .u8/\match k8 s.H b1,k8 s.H b2 with
  | some (.var (.arr m1 e3) (.agg xs1)),some (.var (.arr m2 e4) (.agg xs2))=>e3=e1/\e4=e2/\o1+l1<=m1/\o2+l2<=m2/\match bytesOf ((xs1.drop o1).take l1),bytesOf ((xs2.drop o2).take l2)with
   | some p,some q=>K (Extern.BytealgCompare.cmp ⟨p.toArray⟩ ⟨q.toArray⟩)
   | _,_=>False
  | _,_=>False
 | _,_=>False
theorem gO {P:Program} {w:World} {b:Nat} {cs:Array Value} {E:TypeId} {fz:Nat × Nat} (hc:w.heap[b]?=some (.cells cs E fz)):∀(ns:List Int) (off:Nat) (acc:ByteArray),(∀j v,(ns.map (Value.int .u8))[j]?=some v->cs[off+j]?=some v)->
  (Extern.Bytes.loadBytes ⟨b,off,none⟩ ns.length acc).run P w=.ok ⟨acc.data++(ns.map fun n=>UInt8.ofNat n.toNat).toArray⟩ w
 | [],off,acc,_=>by rfl
 | n::ns,off,acc,h=>by
  have h0:cs[off]?=some (.int .u8 n):=by simpa using h 0 (.int .u8 n) rfl
  have hcell:w.cell? ⟨b,off,none⟩=some (.int .u8 n):=by grind [YL]
  have ih:=gO (P:=P) hc ns (off+1) (acc.push n.toNat.toUInt8) (fun j v hj=>by
   have:=h (j+1) v (by simp_all)
   grind)
  simp_all[Extern.Bytes.loadBytes,wA]
theorem zdp {c:Ctx} (hl:laidOutB c.P=true) {s:St} {a:Act} {w:World} {g:Gh} {β:Nat->Nat} (h:zF c s a w g β) {b e off len m e2:Nat} {xs:List AV} {p:List UInt8} (he:q9 c.P e=.int .u8) (hh:k8 s.H b=some (.var (.arr m e2) (.agg xs))) (h2:e2=e) (hle:off+len<=m) (hb:bytesOf ((xs.drop off).take len)=some p) (cap:Nat) :
  (Extern.Bytes.bytesOf (.slice (some ⟨b,off*c.P.cellsOf e,none⟩) len cap)).run c.P w=.ok ⟨p.toArray⟩ w:=by
 subst h2
 obtain⟨_,cs,⟨E,fz,hc,_⟩,hvc⟩:=h.rep.obj b _ (jA hh)
 simp only[VC]at hvc
 obtain⟨hxm,hvl⟩:=hvc
 have hc1:c.P.cellsOf e2=1:=by rw[jG hl (by rw[he];simp),he];rfl
 have hsub:=JV hl off len hvl (by omega)
 obtain⟨ns,h1,h2,h3⟩:=XU he hsub
 rw[h2]at hb
 have hp:=Option.some.inj hb
 subst hp
 have hlen:((xs.drop off).take len).length=len:=by grind
 rw[hlen]at h3
 rw[hc1,Nat.mul_one,Nat.mul_one]at h1
 rw[hc1,Nat.mul_one]
 have:=gO (P:=c.P) hc ns off .empty (fun j v hj=>by
  grind)
 simp_all[Extern.Bytes.bytesOf]
theorem zkH {c:Ctx} (hl:laidOutB c.P=true) {s:St} {a:Act} {w:World} {g:Gh} {β:Nat->Nat} (h:zF c s a w g β) {gf:FuncId} {x y:TV} {vx vy:Value} {K:Int->Prop} (hx:TVR c.P s g w β x vx) (hy:TVR c.P s g w β y vy) (hk:znd c.P s (.func gf) x y K) :
  ∃fn e n,c.P.funcs[gf]?=some fn/\(fn.name == "runtime.NumGoroutine")=false/\fn.body.isNone=true/\Extern.findNext fn=none/\Extern.find fn=some e/\(e #[vx,vy]).run c.P w=.ok (.int .i64 n) w/\K n:=by
 unfold znd at hk
 split at hk
 ·rename_i d1 b1 e1 o1 l1 c1 d2 b2 e2 o2 l2 c2
  obtain⟨⟨fn,f1,f2,f3,f4,f5⟩,t1,t2,hk⟩:=hk
  obtain⟨fx,hx⟩:=hx
  simp only[VC]at hx
  obtain⟨hd1,hx⟩:=hx
  subst hd1
  rw[qK rfl fx]at hx
  have hx':vx=.slice (some ⟨b1,o1*c.P.cellsOf e1,none⟩) l1 c1:=by simp_all
  obtain⟨fy,hy⟩:=hy
  simp only[VC]at hy
  obtain⟨hd2,hy⟩:=hy
  subst hd2
  rw[qK rfl fy]at hy
  have hy':vy=.slice (some ⟨b2,o2*c.P.cellsOf e2,none⟩) l2 c2:=by simp_all
  subst hx';subst hy'
  split at hk
  ·rename_i m1 e3 xs1 m2 e4 xs2 hh1 hh2
   obtain⟨q1,q2,q3,q4,hk⟩:=hk
   split at hk
   ·rename_i p q hp hq
    have r1:=zdp hl h t1 hh1 q1 q3 hp c1
    have r2:=zdp hl h t2 hh2 q2 q4 hq c2
    refine⟨fn,_,_,f1,f2,f3,f4,f5,?_,hk⟩
    have e:∀u v:Value,Extern.BytealgCompare.compare #[u,v]=(do pure (goInt (Extern.BytealgCompare.cmp (<-Extern.Bytes.bytesOf u) (<-Extern.Bytes.bytesOf v))):Sem Value):=fun _ _=>rfl
    rw[e]
    simp only[Sem.run_bind,r1,r2,Result.andThen_ok,Sem.run_pure]
    rfl
   simp_all
  simp_all
 simp_all
def zrI (P:Program) (s:St) (f:Operand) (args:List TV) (dst:Option Nat) (K:St->Prop):Prop :=
 match dst,args with
 | some d,[x]=>zsD P f/\K (s.put (some d) x)
 | some d,[x,y]=>if zsg P f=true then znd P s f x y fun n=>K (s.put (some d) (.av (.int .i64) (.i .i64 n))) else ovV P s f x y/\K (s.put (some d) (.av .bool (.b false)))
 | _,_=>False
theorem uV {P:Program} {w:World} {b m:Nat} {e:TypeId} {cs:Array Value} (h:kD w b cs (EOK P (.arr m e)) (zcQ P (.arr m e))) (hu8:q9 P e≠.int .u8):∃E fz,w.heap[b]?=some (.cells cs E fz)/\fz.2<=fz.1:=by
 obtain⟨E,fz,h1,h2,_⟩:=h
 refine⟨E,fz,h1,?_⟩
 rcases h2 with h2|⟨_,m',e',h3,h4⟩
 ·exact h2
 simp_all
theorem znH {c:Ctx} (hl:laidOutB c.P=true) {s:St} {a:Act} {w:World} {g:Gh} {β:Nat->Nat} (h:zF c s a w g β) {gf:FuncId} {x y:TV} {vx vy:Value} (hx:TVR c.P s g w β x vx) (hy:TVR c.P s g w β y vy) (hk:ovV c.P s (.func gf) x y) :
  ∃fn e,c.P.funcs[gf]?=some fn/\(fn.name == "runtime.NumGoroutine")=false/\fn.body.isNone=true/\Extern.findNext fn=none/\Extern.find fn=some e/\(e #[vx,vy]).run c.P w=.ok (.bool false) w:=by
 unfold ovV at hk
 split at hk
 ·rename_i d1 b1 e o1 l1 c1 d2 b2 e' o2 l2 c2
  obtain⟨rfl,hne,⟨fn,tS,tR,f1,f2,f3,f4,f5,f6⟩,hp,hu8,hk⟩:=hk
  refine⟨fn,_,f1,f2,f3,f4,f5,?_⟩
  obtain⟨u,hu,hm⟩:=qO f6 (by simp)
  simp only[zP]at hm;subst hm
  obtain⟨i,hi⟩:=jV hp
  obtain⟨fx,hx⟩:=hx
  simp only[VC]at hx
  obtain⟨hd1,hx⟩:=hx
  subst hd1
  rw[qK rfl fx]at hx
  have hx':vx=.slice (some ⟨b1,o1*c.P.cellsOf e',none⟩) l1 c1:=by simp_all
  obtain⟨fy,hy⟩:=hy
  simp only[VC]at hy
  obtain⟨hd2,hy⟩:=hy
  subst hd2
  rw[qK rfl fy]at hy
  have hy':vy=.slice (some ⟨b2,o2*c.P.cellsOf e',none⟩) l2 c2:=by simp_all
  subst hx';subst hy'
  split at hk
  ·rename_i m1 e1 x1 m2 e2 x2 hh1 hh2
   obtain⟨rfl,rfl,hm2⟩:=hk
   obtain⟨_,cs1,hc1,hv1⟩:=h.rep.obj b1 _ (jA hh1)
   obtain⟨_,cs2,hc2,hv2⟩:=h.rep.obj b2 _ (jA hh2)
   obtain⟨E1,fz1,p1,q1⟩:=uV hc1 hu8
   obtain⟨E2,fz2,p2,q2⟩:=uV hc2 hu8
   have hpos:0<c.P.cellsOf e2:=by simp_all[k7]
   have hsz:cs2.size=m2*c.P.cellsOf e2:=by
    have:=wN hl _ _ _ (by simp) hv2
    assumption
   refine Lib.run_overlaps_apart w tS tR e2 hu (c.P.cellsOf e2) (fun w=>run_sizeOf w hi) ⟨b1,_,none⟩ ⟨b2,_,none⟩ l1 c1 l2 c2 hne E1 E2 cs1.size cs2.size (by simp[World.shape?,p1]) (by simp[World.shape?,p2]) ?_ ?_ ?_
   ·rw[hsz]
    have:=Nat.mul_pos hm2 hpos
    omega
   ·grind [World.frozen?]
   grind [World.frozen?]
  simp_all
 simp_all
end Go.Ab
end
section
namespace Go.Ab
open Go
open Classical
variable [Sel]
theorem zeI {P:Program} {w:World} {r bm since c0 clock:Nat} {seen:Array Nat} {es:Array MapEntry} (ty:TypeId)
  (hr:w.heap[r]?=some (.mapIter (some bm) since seen c0)) (hb:w.heap[bm]?=some (.map es clock)) (hold:∀x∈es.toList,x.born<since) (hsc:since<=c0) :
  ((leftOf es seen).size=0/\(Instr.next (.pointer (some ⟨r,0,none⟩)) false ty).run P w=.ok (.tuple #[.bool false]) w)\/
  ∃e∈(leftOf es seen).toList,∃n,w.drawn<=n/\(Instr.next (.pointer (some ⟨r,0,none⟩)) false ty).run P w=.ok (.tuple #[.bool true,e.key,e.val]) (World.setM { w with drawn:=n } r (.mapIter (some bm) since (seen.push e.born) clock)):=by
 simp only[Instr.next,getObj,Sem.run_bind,Sem.run,hr,hb,Result.andThen,next_test_false seen es since c0 hold hsc,Bool.false_eq_true,if_false]
 unfold leftOf
 have hmem:∀x∈(Array.filter (fun e=>!seen.contains e.born) es).toList,x.born<since:=fun x hx=>hold x (by simp_all)
 generalize Array.filter (fun e=>!seen.contains e.born) es=L at hmem |-
 have e1:L.filter (fun x=>decide (x.born<since))=L:=Array.filter_eq_self.2 (fun x hx=>by simp_all)
 have e2:L.filter (fun x=>decide (x.born >= since))=#[]:=by
  simp_all
 simp only[e1,e2,Array.append_empty]
 by_cases h0:L.size=0
 ·simp_all[Question.forced]
 ·right
  have hne:L.isEmpty=false:=by simp_all
  simp only[hne,Bool.false_eq_true,if_false,Array.empty_append,Array.size_map]
  have hch:∃(j:Nat) (n:Nat),j<L.size/\w.drawn<=n/\(choose (Question.mapNext L.size)).run P w=.ok j { w with drawn:=n }:=by
   by_cases hf:L.size<=1
   ·exact⟨0,w.drawn,by omega,Nat.le_refl _,by simp[choose,Sem.run,Question.forced,hf]⟩
   ·exact⟨_,w.drawn+1,Nat.mod_lt _ (by omega),Nat.le_succ _,by
     simp only[choose,Sem.run,Question.forced,decide_eq_true_eq,hf,if_false,Question.cut]
     rfl⟩
  obtain⟨j,n,hj,hal,hrun⟩:=hch
  refine⟨L[j],by simp,n,hal,?_⟩
  have jW:∀(o':Obj),(setObj r o').run P { w with drawn:=n }=.ok () (World.setM { w with drawn:=n } r o'):=fun o'=>by
   simp only[setObj,Sem.run,hr]
   rfl
  simp_all

theorem vA {P:Program} {g:Gh} {w:World} {k e:TypeId}:∀ {es:List (AV × AV)} {en:List MapEntry},yA P g w k e es en->∀(i:Nat) me,en[i]?=some me->∃x y,es[i]?=some (x,y)/\VV P g w (q9 P k) x me.key/\VV P g w (q9 P e) y me.val
 | [],[],_,i,me,h=>by simp at h
 | (x,y)::r,en::er,h,0,me,hi=>by
  simp only[List.getElem?_cons_zero,Option.some.injEq]at hi
  subst hi
  exact⟨x,y,rfl,h.1,h.2.1⟩
 | (x,y)::r,en::er,h,i+1,me,hi=>by
  simp only[List.getElem?_cons_succ]at hi |-
  exact vA h.2.2 i me hi
 | [],_::_,h,_,_,_=>h.elim
 | _::_,[],h,_,_,_=>h.elim

theorem cN {P:Program} {g:Gh} {w:World} {k e:TypeId}:∀ {es:List (AV × AV)} {en:List MapEntry},yA P g w k e es en->es.length=en.length
 | [],[],_=>rfl
 | _::_,_::_,h=>by simp[cN h.2.2]
 | [],_::_,h=>h.elim
 | _::_,[],h=>h.elim

theorem PW {b m:Nat} {o:HObj} (h:m≠b):∀ {H:q8},k8 (jW H b o) m=k8 H m
 | []=>rfl
 | (b',o')::r=>by
  by_cases e:b'=b
  ·subst e
   simp[jW,k8,Ne.symm h]
  ·simp only[jW,e,if_false,k8]
   rw[PW h]

structure UL (P:Program) (k e:TypeId) (es:List (AV × AV)) (en:Array MapEntry) (ck:Nat) (i0:Nat->Nat) (w0:World):Prop where
 imm:ZI (g0 i0) w0
 ents:yA P (g0 i0) w0 k e es en.toList
 st:QS en.toList ck

def ze0 (s:St) (x:Option AV) (d:Nat) (K:St->Prop):Prop :=
 match x with
 | some (.map (some b))=>match k8 s.H b with
  | some (.raw (.map en ck) i0 w0)=>∀b',b'∉s.H.keys->K (({ s with H:=(b',.raw (.mapIter (some b) ck #[] ck) (fun _=>0) default)::s.H }:St).put (some d) (.av .ptr (.ptr b' .other [])))
  | _=>False
 | _=>False
def zid (P:Program) (s:St) (x:TV) (d:Nat) (K:St->Prop):Prop :=
 match x with
 | .av .ptr (.ptr b .other [])=>match k8 s.H b with
  | some (.raw (.mapIter (some m) since seen last) _ _)=>match k8 s.H m with
   | some (.raw (.map en ck) i0 w0)=>∃k e es,UL P k e es en ck i0 w0/\ck<=since/\since<=last/\
     ((∀(i:Nat) me,en[i]?=some me->me.born∈seen)->K (s.put (some d) (.tup [(.bool,.b false)])))/\
     ∀(i:Nat) me x y,en[i]?=some me->me.born∉seen->es[i]?=some (x,y)->
      K (({ s with H:=jW s.H b (.raw (.mapIter (some m) since (seen.push me.born) ck) (fun _=>0) default) }:St).put (some d) (.tup [(.bool,.b true),(q9 P k,x),(q9 P e,y)]))
   | _=>False
  | _=>False
 | _=>False
def zdR (P:Program) (s:St) (x:TV) (K:TV->Prop):Prop :=
 match x with
 | .av .ptr (.ptr b .other [])=>match k8 s.H b with
  | some (.raw (.mapIter (some m) _ seen last) _ _)=>match k8 s.H m with
   | some (.raw (.map en ck) i0 w0)=>∃(k e:TypeId) (es:List (AV × AV)) (i:Nat) (me:MapEntry) (x y:AV),UL P k e es en ck i0 w0/\last=ck/\en[i]?=some me/\es[i]?=some (x,y)/\seen.back?=some me.born/\K (.tup [(q9 P k,x),(q9 P e,y)])
   | _=>False
  | _=>False
 | _=>False
def zhK (P:Program) (s:St) (T:TypeId) (parts:Array (Nat × Operand)) (K:TV->Prop):Prop :=
 zB P T=true/\match q9 P T with
 | .struct fs=>match y7 P s (fs[·]?) parts.toList (QR (zM P true T))with
  | some ps=>K (.av (.struct fs) (.agg ps))
  | none=>False
 | .arr n e=>k7 P e=true/\match y7 P s (fun _=>some e) parts.toList (QR (zM P true T))with
  | some ps=>K (.av (.arr n e) (.agg ps))
  | none=>False
 | _=>False
theorem ze2 {c:Ctx} (hl:laidOutB c.P=true) {s:St} {a:Act} {w:World} {g:Gh} {β:Nat->Nat} (h:zF c s a w g β) {T:TypeId} {parts:Array (Nat × Operand)} {K:TV->Prop} (hd:zhK c.P s T parts K) :
  ∃u tu,(Instr.build T (parts.map fun(i,x)=>(i,a.eval x))).run c.P w=.ok u w/\K tu/\TVR c.P s g w β tu u:=by
 obtain⟨hz,hd⟩:=hd
 obtain⟨z,hzr,hzv⟩:=zqv true hz
 have hv:=hzv g w
 cases hT:q9 c.P T<;>rw[hT]at hd<;>try (exact hd.elim)
 ·rename_i fs
  simp only at hd
  obtain⟨u,hu,hm⟩:=qO hT (by simp)
  simp only[zP]at hm
  obtain⟨F,rfl,rfl,_⟩:=hm
  cases hb:y7 c.P s ((F.toList.map (·.type))[·]?) parts.toList (QR (zM c.P true T))with
  | none=>rw[hb]at hd;exact hd.elim
  | some ps =>
   rw[hb]at hd
   simp only at hd
   rw[hT]at hv
   obtain⟨cs,rfl⟩:=QC rfl hv
   obtain⟨_,hv⟩:=hv
   cases hzT:zM c.P true T with
   | agg qs =>
    rw[hzT]at hv hb
    simp only[VC,Value.cells]at hv
    have hne:q9 c.P T≠.other:=by rw[hT];simp
    obtain⟨cells',h1,h2⟩:=UU hl h (fs:=F.toList.map (·.type)) (place:=fun i=>(F.map fun f=>(f.offset,c.P.cellsOf f.type))[i]?) (fun i T' hT' hne'=>by
     simp only[List.getElem?_map,Option.map_eq_some_iff]at hT'
     obtain⟨fd,hfd,rfl⟩:=hT'
     have hfd':F[i]?=some fd:=by simpa using hfd
     have:=uC hl (J3 hne) hu hfd'
     simp[hfd',this,List.map_take]) parts.toList qs ps cs hv hb
    refine⟨.agg cells',_,?_,hd,rfl,by simpa only[VC,Value.cells]using h2⟩
    unfold Instr.build
    have hmap:(F.mapM fun f=>do pure (f.offset,<-sizeOf f.type):Sem (Array (Nat × Nat))).run c.P w=.ok (F.map fun f=>(f.offset,c.P.cellsOf f.type)) w:=by
     have hall:∀f∈F.toList,q9 c.P f.type≠.other\/∃i,c.P.info? f.type=some i:=by
      intro f hf
      right
      have hlt:=J3 hne
      have hr:=pB hl hlt
      have hvv:isVar c.P T=true:=p6 hne
      unfold rowFine at hr
      simp only[hvv,Bool.not_true,Bool.false_or,hu,Bool.and_eq_true,List.all_eq_true]at hr
      have:=hr.1.1 f hf
      simp only[isVar,Bool.and_eq_true,decide_eq_true_eq]at this
      exact CZ this.1
     rw[Array.mapM_eq_mapM_toList]
     have key:∀(l:List Field),(∀f∈l,q9 c.P f.type≠.other\/∃i,c.P.info? f.type=some i)->
       (l.mapM fun f=>Functor.map (Prod.mk f.offset) (sizeOf f.type):Sem (List (Nat × Nat))).run c.P w=.ok (l.map fun f=>(f.offset,c.P.cellsOf f.type)) w:=by
      intro l
      induction l with
      | nil=>intro _;rfl
      | cons f r ih =>
       intro hall
       have h1:(sizeOf f.type).run c.P w=.ok (c.P.cellsOf f.type) w:=by
        rcases hall f (by simp)with h|⟨i,hi⟩
        ·exact Q8 h w
        ·exact run_sizeOf w hi
       simp[List.mapM_cons,h1,ih (fun f hf=>hall f (by simp[hf]))]
     simp[key F.toList hall]
     obtain⟨l⟩:=F;simp
    have hparts:(parts.map fun(i,x)=>(i,a.eval x)).toList=parts.toList.map fun x=>(x.1,a.eval x.2):=by simp
    simp only[Sem.run_bind,hzr,Result.andThen_ok,run_underlying hu,hmap,Value.cells,hparts,h1,Sem.run_pure]
   | _=>rw[hzT]at hv;simp[VC]at hv
 ·rename_i n e
  simp only at hd
  obtain⟨hp,hd⟩:=hd
  obtain⟨u,hu,hm⟩:=qO hT (by simp)
  simp only[zP]at hm;subst hm
  obtain⟨i,hi⟩:=jV hp
  cases hb:y7 c.P s (fun _=>some e) parts.toList (QR (zM c.P true T))with
  | none=>rw[hb]at hd;exact hd.elim
  | some ps =>
   rw[hb]at hd
   simp only at hd
   rw[hT]at hv
   obtain⟨cs,rfl⟩:=QC rfl hv
   obtain⟨_,hv⟩:=hv
   cases hzT:zM c.P true T with
   | agg qs =>
    rw[hzT]at hv hb
    simp only[VC,Value.cells]at hv
    obtain⟨cells',h1,h2⟩:=P5 hl h parts.toList qs ps cs hv.2 hb
    have hlen:=uT _ _ _ hb
    simp only[QR]at hlen
    refine⟨.agg cells',_,?_,hd,rfl,by simp only[VC,Value.cells];exact⟨hlen.trans hv.1,h2⟩⟩
    unfold Instr.build
    have hparts:(parts.map fun(i,x)=>(i,a.eval x)).toList=parts.toList.map fun x=>(x.1,a.eval x.2):=by simp
    simp only[Sem.run_bind,hzr,Result.andThen_ok,run_underlying hu,run_sizeOf w hi,Value.cells,hparts,h1,Sem.run_pure]
   | _=>rw[hzT]at hv;simp[VC]at hv
end Go.Ab
end
section
namespace Go.Ab
open Go
open Classical
variable [Sel]
def J0:AV->Option TV
 | .ptr b d p=>some (.av .ptr (.ptr b d p))
 | .s x=>some (.av .str (.s x))
 | .b x=>some (.av .bool (.b x))
 | .i k n=>some (.av (.int k) (.i k n))
 | .fn f caps=>some (.av .func (.fn f caps))
 | _=>none

theorem zF.setRaw {c:Ctx} {s:St} {a:Act} {w:World} {g:Gh} {β:Nat->Nat} (h:zF c s a w g β) {b:Nat} {r r':Obj} {i0 i1:Nat->Nat} {w0 w1:World} (hk:k8 s.H b=some (.raw r i0 w0)) (hod:zdP r' i1 w1 g.imm (World.setM w b r')) :
  zF c { s with H:=jW s.H b (.raw r' i1 w1) } a (World.setM w b r') g β:=by
 have hin:b∈s.H.keys:=List.mem_map.2 ⟨_,jA hk,rfl⟩
 obtain⟨h0,hb0,hlt⟩:=h.rep.obj b _ (jA hk)
 have hi:=h.rep.imm
 have hik:jP g w (World.setM w b r'):=by
  intro b' cs E fz h1 h2
  have hne:b'≠b:=fun e=>by simp_all
  simp_all[zK]
 have hcell:∀ {b':Nat} {cs:Array Value} {Q:TypeId->Prop} {F:Prop},kD w b' cs Q F->b'≠b/\kD (World.setM w b r') b' cs Q F:=by
  intro b' cs Q F ⟨E,fz,h1,h2⟩
  have hne:b'≠b:=fun e=>by subst e;rw[hb0]at h1;cases h1;exact absurd hlt.2 (by simp[zht])
  exact⟨hne,E,fz,by simp_all[zK],h2⟩
 exact {
  defers:=h.defers.of fun D hD=>by
   have hne:D≠b:=fun e=>by subst e;rw[hD]at hb0;cases hb0;exact absurd hlt.2 (by simp[zht])
   simp_all[zK]
  size:=h.size
  env:=fun t=>y8 (Gh.le_refl g) hi hik (fun j d' z e=>⟨z,e,rfl⟩) (h.env t)
  locs:=fun j d' z e=>by
   have L':=h.locs j d' z e
   obtain⟨cs',h1,h2⟩:=L'.block
   exact⟨L'.base,by rw[yT];exact L'.noH,L'.imm,cs',(hcell h1).2,jE (Gh.le_refl g) hi hik _ _ _ h2⟩
  inj:=h.inj
  rep:=⟨fun b' hb=>by
    have hne:b'≠b:=fun e=>by simp_all
    obtain⟨cs',E,fz,h1,h2⟩:=hi b' hb
    simp_all[zK],by rw[yT];exact h.rep.nodup,fun b' o hb=>by
   rcases zbU h.rep.nodup hb with⟨rfl,rfl,_⟩|⟨hne,hb⟩
   ·exact⟨h0,zdn hb0,hod⟩
   ·have ho:=h.rep.obj b' o hb
    cases o with
    | var d x=>obtain⟨h1,cs',h2,h3⟩:=ho;exact⟨h1,cs',(hcell h2).2,jE (Gh.le_refl g) hi hik _ _ _ h3⟩
    | map k' e' es2=>obtain⟨h1,en',ck',h2,h3⟩:=ho;exact⟨h1,en',ck',by simp_all[zK],yI (Gh.le_refl g) hi hik h3⟩
    | raw r2 i2 w2=>obtain⟨h1,h2,h3⟩:=ho;exact⟨h1,by simp_all[zK],yE h3 (Gh.le_refl g) hik⟩,h.rep.tab.keep (Gh.le_refl g) hi hik⟩
  toks:=fun j t e=>by
   have T:=h.toks j t e
   obtain⟨cs',h1,h2⟩:=T.block
   exact⟨T.base,by rw[yT];exact T.noH,T.noLoc,T.imm,cs',(hcell h1).2,h2⟩
  tokd:=h.tokd
  toknew:=h.toknew
  step:={
   os:=h.step.os,tape:=h.step.tape,output:=h.step.output,drawn:=h.step.drawn
   size:=by rw[VS];exact h.step.size
   frame:=fun b' hb hn=>by
    have hne:b'≠b:=fun e=>by
     rw[e]at hb hn
     rcases h.step.dom b hin with h1|h1
     ·exact hn h1
     ·omega
    rw[zK w b b' _ hne];exact h.step.frame b' hb hn
   imm:=h.step.imm
   kept:=fun b' cs' E fz h1 h2=>by
    obtain⟨cs2,E2,fz2,h3,h4⟩:=h.step.kept b' cs' E fz h1 h2
    have hne:b'≠b:=fun e=>by rw[e]at h3;rw[hb0]at h3;cases h3;exact absurd hlt.2 (by simp[zht])
    simp_all[zK]
   dom:=fun b' hb=>h.step.dom b' (by simp_all[yT]) } }

theorem zF.setR {c:Ctx} {s:St} {a:Act} {w:World} {g:Gh} {β:Nat->Nat} (h:zF c s a w g β) {b:Nat} {r r':Obj} {i0:Nat->Nat} {w0:World} (hk:k8 s.H b=some (.raw r i0 w0)) (hod:zht r'=true) :
  zF c { s with H:=jW s.H b (.raw r' i0 w0) } a (World.setM w b r') g β:=by
 obtain⟨h0,hb0,hlt⟩:=h.rep.obj b _ (jA hk)
 refine h.setRaw hk ⟨zb0 hlt.1 (Gh.le_refl g) ?_,hod⟩
 intro b' cs E fz h1 h2
 have hne:b'≠b:=fun e=>by simp_all
 simp_all[zK]

def zek:HObj->Option (List UInt8 × Nat)
 | .raw (.stringIter s pos) _ _=>some (s.data.toList,pos)
 | _=>none
theorem zcz {l:List UInt8} {pos:Nat}:zek (.siter l pos)=some (l,pos):=rfl
def JC (l:List UInt8) (pos:Nat):Nat × Nat:=Utf8.decode ⟨l.toArray⟩ pos

def YC (P:Program) (l:Nat) (args:List TV) (H:q8) (R:TV->q8->Prop):Prop :=
 ∀(imm:Nat->Nat) (w:World) (vs:Array Value),Rep P (g0 imm) w H->ARs P (g0 imm) w args vs.toList->
  ∃f tmps assign body,(Instr.yield l vs).run P w=.ok (.round l f tmps assign body) w/\RoundIn (fen none) 0 P l f tmps assign body w fun e w' =>
   ∃v r imm' H',e=.returned v/\R r H'/\AR P (g0 imm') w' r v/\Rep P (g0 imm') w' H'/\JN imm H w imm' H' w'

def JD (P:Program) (s:St) (ft:TV) (args:List TV) (dst:Option Nat) (K:St->Prop):Prop :=
 match ft with
 | .av .func (.fn g caps)=>match caps.mapM J0 with
  | some cs=>args.all qI=true/\qR P g=true/\∃(Hs rest:q8) (R:TV->q8->Prop),s.H.Perm (Hs++rest)/\q7 P g ((args++cs).map TV.er) Hs.er R/\
    ∀r H',R r H'->(H'++rest).keys.Nodup->∃H'',HSub H'' (H'++rest)/\K (({ s with H:=H'' }:St).put dst r)
  | none=>False
 | .av .func (.bm g fs)=>match fs.mapM J0 with
  | some cs=>args.all qI=true/\qR P g=true/\∃(Hs rest:q8) (R:TV->q8->Prop),s.H.Perm (Hs++rest)/\q7 P g ((cs++args).map TV.er) Hs.er R/\
    ∀r H',R r H'->(H'++rest).keys.Nodup->∃H'',HSub H'' (H'++rest)/\K (({ s with H:=H'' }:St).put dst r)
  | none=>False
 | .av .func (.yl l)=>args.all qI=true/\∃(Hs rest:q8) (R:TV->q8->Prop),s.H.Perm (Hs++rest)/\YC P l (args.map TV.er) Hs.er R/\
    ∀r H',R r H'->(H'++rest).keys.Nodup->∃H'',HSub H'' (H'++rest)/\K (({ s with H:=H'' }:St).put dst r)
 | _=>False

def D5 (P:Program) (s:St) (T:TypeId) (p v:TV) (K:St->Prop):Prop :=
 match co (q9 P T) v with
 | none=>False
 | some y=>match p with
  | .loc k path=>match s.loc k with
   | some (d,x)=>gK P d path=some (q9 P T)/\(X6 x path).isSome=true/\K { s with loc:=upd s.loc k (some (d,PG x path y)) }
   | none=>False
  | .av .ptr (.ptr b d path)=>match k8 s.H b with
   | some (.var d0 x)=>d0=d/\gK P d path=some (q9 P T)/\(X6 x path).isSome=true/\K { s with H:=jW s.H b (.var d (PG x path y)) }
   | _=>False
  | _=>False

def Y6 (s:St) (dst:Option Nat) (K:St->Prop) (tv:TV):Prop:=K (s.put dst tv)

def zfw (cf:Cfg):Option Nat->Bool
 | some d=>cf.mtb d
 | none=>false
def zsW (cf:Cfg):Option Nat->Bool
 | some d=>cf.mtb (4000000+d)
 | none=>false
def zab (P:Program) (s:St) (d:Nat) (e:TypeId) (b off len cap:Nat) (y:TV) (K:St->Prop):Prop :=
 match k8 s.H b,asI y with
 | some (.var (.arr m e') (.agg xs)),some (_,n)=>e'=e/\off+cap<=m/\len<=cap/\0<n/\(cap:Int)<len+n/\dG P e (len+n.toNat)/\cM P s d e ((xs.drop off).take len) (List.replicate n.toNat (zT P e)) K
 | _,_=>False
def P7 (P:Program) (s:St) (d:Nat) (e:TypeId) (y:TV) (K:St->Prop):Prop :=
 match asI y with
 | some (_,n)=>0<n/\dG P e n.toNat/\cM P s d e [] (List.replicate n.toNat (zT P e)) K
 | none=>False
def zeu (P:Program) (s:St) (T:TypeId) (x:TV) (K:St->Prop):Prop :=
 match q9 P T with
 | .slice e=>match co (.slice e) x with
  | some (.msl b e' off len _)=>e'=e/\zB P e=true/\k7 P e=true/\match k8 s.H b with
   | some (.var (.arr m e2) (.agg xs))=>e2=e/\off+len<=m/\K { s with H:=jW s.H b (.var (.arr m e) (.agg (xs.take off++List.replicate len (zT P e)++xs.drop (off+len)))) }
   | _=>False
  | _=>False
 | _=>False
noncomputable def zoh (P:Program) (s:St) (T:TypeId) (m k:TV) (K:St->Prop):Prop :=
 match q9 P T with
 | .map kt e=>match co (.map kt e) m,co (q9 P kt) k with
  | some (.map (some b)),some y=>match k8 s.H b with
   | some (.map k' e' es)=>k'=kt/\e'=e/\X2 P kt=true/\K { s with H:=jW s.H b (.map kt e (zaU y es)) }
   | _=>False
  | _,_=>False
 | _=>False
section
variable {c:Ctx} (hl:laidOutB c.P=true) {s:St} {a:Act} {w:World} {g:Gh} {β:Nat->Nat} (h:zF c s a w g β)
include hl h
theorem zcr {T TX ty e:TypeId} (hT:q9 c.P T=.slice e) {kn:IntKind} (hTX:q9 c.P TX=.int kn) {b off len cap:Nat} {y:TV} {vy:Value} {d:Nat} (hd:d<c.n) {K:St->Prop}
  (hy:TVR c.P s g w β y vy) (hk:zab c.P s d e b off len cap y K) :
  ∃u w' s',(Builtin.append_ #[T,TX] ty #[.slice (some ⟨b,off*c.P.cellsOf e,none⟩) len cap,vy]).run c.P w=.ok u w'/\K s'/\zF c s' (a.put (some d) u) w' g β:=by
 unfold zab at hk
 obtain⟨u,hu,hm⟩:=qO hT (by simp)
 simp only[zP]at hm;subst hm
 obtain⟨u2,hu2,hm2⟩:=qO hTX (by simp)
 simp only[zP]at hm2;subst hm2
 split at hk
 ·rename_i m e' xs kq n hh hn
  obtain⟨rfl,hoc,hlc,hn0,hgrow,hok,hk⟩:=hk
  have hvy:=wP hn hy
  subst hvy
  obtain⟨k,rfl⟩:∃k:Nat,n=(k:Int):=⟨n.toNat,by omega⟩
  simp only[Int.toNat_natCast]at hok hk
  obtain⟨_,cs,hcs,hvc⟩:=h.rep.obj b _ (jA hh)
  obtain⟨h1,h2⟩:=zad hl hl hu (cap:=cap) hcs hvc (by omega:off+len<=m)
  have hxl:((xs.drop off).take len).length=len:=by
   grind [VC]
  obtain⟨hb1,hb2,hz,hp⟩:=hok
  obtain⟨i,hi⟩:=jV hp
  have hisz:i.size=c.P.cellsOf e':=by simp[Program.cellsOf,hi]
  have hiby:i.bytes=c.P.bytesOf e':=by simp[Program.bytesOf,hi]
  have hd1:=h.drew (w.drawn+1)
  obtain⟨z,hzr,hzv⟩:=K9 hz
  have hiz:i.zero=some z:=by
   have:=hzr w
   unfold zeroValue typeInfo at this
   simp[hi]at this
   cases hiz:i.zero with
   | none=>simp_all
   | some z'=>simp_all
  have hg':cap<len+k:=by omega
  have hfit:Builtin.nextslicecap (len+k) cap*i.bytes<=281474976710656:=by
   rw[hiby]
   exact Nat.le_trans (Nat.mul_le_mul_right _ (nextslicecap_le hg')) hb1
  have hfk:k*i.bytes<=281474976710656:=by
   grind
  have hpos:0<c.P.cellsOf e':=by simp_all[k7]
  generalize holds:((cs.toList.drop (off*c.P.cellsOf e')).take (len*c.P.cellsOf e'))=olds at h1 h2
  have hr:=Lib.run_append_grow_zeros w T TX ty e' i z kq kn hu hu2 hi hiz (some ⟨b,off*c.P.cellsOf e',none⟩) len cap olds (by rw[hisz];exact h1.cellsD) k (by omega) (by omega) hg' (by omega) hfk hfit
  have hgc:len+k<=grownCap w (len+k) cap e':=by
   simp[grownCap,Question.cut]
  generalize grownCap w (len+k) cap e'=nc at hr hgc
  have hzsz:z.cells.size=c.P.cellsOf e':=by
   have hne:=y5 hl _ _ _ (hzv g w).2
   rw[<-Array.length_toList,wN hl _ _ _ hne (hzv g w).2,jG hl hne]
  have hzl:=K8 (hzv g w).2 hzsz (by omega) (nc-(len+k))
  have hzk:=K8 (hzv g w).2 hzsz (by omega) k
  have hzc:∀j,(Builtin.zeroCells z.cells j).toList=((Array.range (j*c.P.cellsOf e')).map (z.cells[· % z.cells.size]!)).toList:=fun j=>by
   simp_all[Builtin.zeroCells]
  generalize hrow:(olds.toArray++Builtin.zeroCells z.cells k++Builtin.zeroCells z.cells (nc-(len+k)))=row at hr
  have hvc2:VC c.P g w (.arr nc e') (.agg ((xs.drop off).take len++List.replicate k (zT c.P e')++List.replicate (nc-(len+k)) (zT c.P e'))) row.toList:=by
   grind [VC,yJ]
  have hlr:(List.replicate k (zT c.P e')).length=k:=List.length_replicate
  obtain⟨h3,h4⟩:=hd1.newH (E:=e') (x:=.agg ((xs.drop off).take len++List.replicate k (zT c.P e')++List.replicate (nc-(len+k)) (zT c.P e'))) (d:=.arr nc e') (cs:=row) (jE (w':={ w with drawn:=w.drawn+1 }) (Gh.le_refl g) h.rep.imm (fun b cs E fz _ hb=>⟨cs,E,fz,hb,rfl,fun _ _=>rfl⟩) _ _ _ hvc2) (.inr ⟨_,rfl⟩)
  have hk1:=hk w.heap.size nc h4 (by omega)
  rw[hxl,hlr]at hk1
  refine⟨_,_,_,hr,hk1,h3.put (fun _ e=>by simp_all) ⟨rfl,?_⟩⟩
  simp[VC,Value.cells]
 simp_all

theorem zbY {T TX ty e:TypeId} (hT:q9 c.P T=.slice e) {kn:IntKind} (hTX:q9 c.P TX=.int kn) {y:TV} {vy:Value} {d:Nat} (hd:d<c.n) {K:St->Prop}
  (hy:TVR c.P s g w β y vy) (hk:P7 c.P s d e y K) :
  ∃u w' s',(Builtin.append_ #[T,TX] ty #[.slice none 0 0,vy]).run c.P w=.ok u w'/\K s'/\zF c s' (a.put (some d) u) w' g β:=by
 unfold P7 at hk
 obtain⟨u,hu,hm⟩:=qO hT (by simp)
 simp only[zP]at hm;subst hm
 obtain⟨u2,hu2,hm2⟩:=qO hTX (by simp)
 simp only[zP]at hm2;subst hm2
 split at hk
 ·rename_i kq n hn
  obtain⟨hn0,hok,hk⟩:=hk
  have hvy:=wP hn hy
  subst hvy
  obtain⟨k,rfl⟩:∃k:Nat,n=(k:Int):=⟨n.toNat,by omega⟩
  simp only[Int.toNat_natCast]at hok hk
  obtain⟨hb1,hb2,hz,hp⟩:=hok
  obtain⟨i,hi⟩:=jV hp
  have hisz:i.size=c.P.cellsOf e:=by simp[Program.cellsOf,hi]
  have hiby:i.bytes=c.P.bytesOf e:=by simp[Program.bytesOf,hi]
  have hd1:=h.drew (w.drawn+1)
  obtain⟨z,hzr,hzv⟩:=K9 hz
  have hiz:i.zero=some z:=by
   have:=hzr w
   unfold zeroValue typeInfo at this
   simp[hi]at this
   cases hiz:i.zero with
   | none=>simp_all
   | some z'=>simp_all
  have hg':0<0+k:=by omega
  have hfit:Builtin.nextslicecap (0+k) 0*i.bytes<=281474976710656:=by
   rw[hiby]
   exact Nat.le_trans (Nat.mul_le_mul_right _ (nextslicecap_le hg')) (by rw[Nat.zero_add];exact hb1)
  have hfk:k*i.bytes<=281474976710656:=by
   rw[hiby]
   exact Nat.le_trans (Nat.mul_le_mul_right _ (by omega)) hb1
  have hpos:0<c.P.cellsOf e:=by simp_all[k7]
  have hr:=Lib.run_append_grow_zeros w T TX ty e i z kq kn hu hu2 hi hiz none 0 0 [] (by rfl) k (by omega) (by omega) hg' (by omega) hfk hfit
  have hgc:0+k<=grownCap w (0+k) 0 e:=by
   simp[grownCap,Question.cut]
  generalize grownCap w (0+k) 0 e=nc at hr hgc
  have hzsz:z.cells.size=c.P.cellsOf e:=by
   have hne:=y5 hl _ _ _ (hzv g w).2
   rw[<-Array.length_toList,wN hl _ _ _ hne (hzv g w).2,jG hl hne]
  have hzl:=K8 (hzv g w).2 hzsz (by omega) (nc-(0+k))
  have hzk:=K8 (hzv g w).2 hzsz (by omega) k
  have hzc:∀j,(Builtin.zeroCells z.cells j).toList=((Array.range (j*c.P.cellsOf e)).map (z.cells[· % z.cells.size]!)).toList:=fun j=>by
   simp_all[Builtin.zeroCells]
  generalize hrow:((List.nil:List Value).toArray++Builtin.zeroCells z.cells k++Builtin.zeroCells z.cells (nc-(0+k)))=row at hr
  have hvc2:VC c.P g w (.arr nc e) (.agg (List.replicate k (zT c.P e)++List.replicate (nc-(0+k)) (zT c.P e))) row.toList:=by
   subst hrow
   simp only[VC,List.length_append,List.length_replicate,Array.toList_append,List.nil_append,hzc]
   exact⟨by omega,yJ hzk hzl⟩
  obtain⟨h3,h4⟩:=hd1.newH (E:=e) (x:=.agg (List.replicate k (zT c.P e)++List.replicate (nc-(0+k)) (zT c.P e))) (d:=.arr nc e) (cs:=row) (jE (w':={ w with drawn:=w.drawn+1 }) (Gh.le_refl g) h.rep.imm (fun b cs E fz _ hb=>⟨cs,E,fz,hb,rfl,fun _ _=>rfl⟩) _ _ _ hvc2) (.inr ⟨_,rfl⟩)
  have hk1:=hk w.heap.size nc h4 (by simp;omega)
  simp only[List.nil_append,List.length_nil,List.length_replicate]at hk1
  refine⟨_,_,_,hr,hk1,h3.put (fun _ e=>by simp_all) ⟨rfl,?_⟩⟩
  simp[VC,Value.cells]
 simp_all

theorem zgC {T ty:TypeId} {tx:TV} {vx:Value} (hx:TVR c.P s g w β tx vx) {K:St->Prop} (hk:zeu c.P s T tx K) :
  ∃w' s',(Builtin.clear_ #[T] ty #[vx]).run c.P w=.ok (.tuple #[]) w'/\K s'/\zF c s' a w' g β:=by
 unfold zeu at hk
 cases hT:q9 c.P T<;>rw[hT]at hk<;>try (exact hk.elim)
 rename_i e
 obtain⟨u,hu,hm⟩:=qO hT (by simp)
 simp only[zP]at hm;subst hm
 simp only at hk
 cases hc:co (.slice e) tx with
 | none=>rw[hc]at hk;exact hk.elim
 | some ax =>
  rw[hc]at hk
  have hv:=kQ hc hx
  cases ax<;>try (exact hk.elim)
  rename_i b e' off len cap
  obtain⟨rfl,hz,hp,hk⟩:=hk
  obtain⟨f,hv⟩:=hv
  simp only[VC]at hv
  obtain⟨_,hv⟩:=hv
  rw[qK rfl f]at hv
  have hx':vx=.slice (some ⟨b,off*c.P.cellsOf e',none⟩) len cap:=by simpa using hv
  subst hx'
  cases hh:k8 s.H b with
  | none=>rw[hh]at hk;exact hk.elim
  | some o =>
   rw[hh]at hk
   cases o with
   | map k e es=>exact hk.elim
   | raw _ _ _=>exact hk.elim
   | var d0 x =>
    cases d0<;>try (exact hk.elim)
    cases x<;>try (exact hk.elim)
    rename_i m e2 xs
    obtain⟨rfl,hle,hk⟩:=hk
    obtain⟨_,cs,hcs,hvc⟩:=h.rep.obj b _ (jA hh)
    have hcs0:=hcs
    obtain⟨E,fz,hc1,hc2⟩:=hcs
    obtain⟨z,hzr,hzv⟩:=K9 hz
    have hpos:0<c.P.cellsOf e2:=by simpa[k7]using hp
    have hzsz:z.cells.size=c.P.cellsOf e2:=by
     have hne:=y5 hl _ _ _ (hzv g w).2
     rw[<-Array.length_toList,wN hl _ _ _ hne (hzv g w).2,jG hl hne]
    have hvc':=hvc
    simp only[VC]at hvc'
    obtain⟨hxm,hvl⟩:=hvc'
    have hsz:=ZD hl _ _ _ hvl
    rw[Array.length_toList]at hsz
    by_cases h0:len=0
    ·subst h0
     have e1:xs.take off++List.replicate 0 (zT c.P e2)++xs.drop (off+0)=xs:=by simp
     rw[e1]at hk
     have hs:=h.setH hh hcs0 rfl hvc
     rw[setRow_self w b cs E fz hc1]at hs
     refine⟨w,_,?_,hk,hs⟩
     simp[Builtin.clear_,run_underlying hu]
    ·have hzl:=K8 (hzv g w).2 hzsz (by omega) len
     have hzc:(Builtin.zeroCells z.cells len).toList=((Array.range (len*c.P.cellsOf e2)).map (z.cells[· % z.cells.size]!)).toList:=by
      rw[<-hzsz]
      simp[Builtin.zeroCells]
     rw[<-hzc]at hzl
     have hnl:(Builtin.zeroCells z.cells len).toList.length=len*c.P.cellsOf e2:=by
      rw[ZD hl _ _ _ hzl,List.length_replicate]
     have hmul:(off+len)*c.P.cellsOf e2<=xs.length*c.P.cellsOf e2:=Nat.mul_le_mul_right _ (by omega)
     rw[Nat.add_mul]at hmul
     have hst:=y3 (P:=c.P) b (off*c.P.cellsOf e2) E fz (Builtin.zeroCells z.cells len).toList 0 cs w hc1 (hc2.1.imp_right And.left) (by rw[hnl,hsz];omega) (u6 _ _ _ hzl)
     simp only[Nat.add_zero]at hst
     have jW:VC c.P g w (.arr m e2) (.agg (xs.take off++List.replicate len (zT c.P e2)++xs.drop (off+len))) (cs.toList.take (off*c.P.cellsOf e2)++(Builtin.zeroCells z.cells len).toList++cs.toList.drop (off*c.P.cellsOf e2+(Builtin.zeroCells z.cells len).toList.length)):=by
      simp only[VC]
      refine⟨by simp;omega,?_⟩
      have t1:=JV hl 0 off hvl (by omega)
      simp only[List.drop_zero,Nat.zero_mul]at t1
      have t2:=JV hl (off+len) (xs.length-(off+len)) hvl (by omega)
      rw[List.take_of_length_le (by rw[List.length_drop];exact Nat.le_refl _),List.take_of_length_le (by rw[List.length_drop,Array.length_toList,hsz,Nat.sub_mul];exact Nat.le_refl _)]at t2
      rw[hnl,<-Nat.add_mul]
      exact yJ (yJ t1 hzl) t2
     refine⟨_,_,?_,hk,h.setH (cs:=(cs.toList.take (off*c.P.cellsOf e2)++(Builtin.zeroCells z.cells len).toList++cs.toList.drop (off*c.P.cellsOf e2+(Builtin.zeroCells z.cells len).toList.length)).toArray) hh hcs0 (by simp only[List.size_toArray,List.length_append,List.length_take,List.length_drop,hnl,Array.length_toList];omega) (by simpa using jW)⟩
     unfold Builtin.clear_
     simp only[List.getElem?_toArray,List.getElem?_cons_zero,Sem.run_bind,run_underlying hu,Result.andThen_ok]
     simp only[hzr,Result.andThen_ok,hst,Sem.run_pure]
theorem zcR {T TK ty:TypeId} {m k:TV} {vm vk:Value} (hm:TVR c.P s g w β m vm) (hk:TVR c.P s g w β k vk) {K:St->Prop} (hd:zoh c.P s T m k K) :
  ∃w' s',(Builtin.delete_ #[T,TK] ty #[vm,vk]).run c.P w=.ok (.tuple #[]) w'/\K s'/\zF c s' a w' g β:=by
 unfold zoh at hd
 cases hT:q9 c.P T<;>rw[hT]at hd<;>simp only at hd<;>try (exact hd.elim)
 rename_i kt e
 obtain⟨u,hu,hmm⟩:=qO hT (by simp)
 simp only[zP]at hmm;subst hmm
 split at hd
 ·rename_i b y e1 e2
  have hy:=kQ e2 hk
  have hmv:=kQ e1 hm
  split at hd
  ·rename_i k' e' es hh
   obtain⟨rfl,rfl,hs,hd⟩:=hd
   obtain⟨f,hmv⟩:=hmv
   simp only[VC]at hmv
   obtain⟨_,_,_,hmv⟩:=hmv
   rw[qK rfl f]at hmv
   have hmv':vm=.map (some b):=by simp_all
   obtain⟨_,en,ck,hb,hrel,hst⟩:=h.rep.obj b _ (jA hh)
   have hck:(Instr.checkKey en.isEmpty 10000 k' vk).run c.P w=.ok () w:=VK hl hs hy _
   have key:∀(q:Option (Nat × Value)),wO vk en.toList 0=q->(Instr.findKey k' vk en.toList).run c.P w=.ok q w:=fun q hq=>by grind [zb2]
   have jW:∀o,(setObj b o).run c.P w=.ok () (World.setM w b o):=fun o=>MapKept.run_setObj_map o hb
   rw[hmv']
   rcases zfi hs hy 0 hrel with⟨h1,h2⟩|⟨j,v,h1,h2,h3⟩
   ·refine⟨_,_,?_,hd,h.setM hh (en:=en) (ck:=ck) ⟨by simp_all,hst⟩⟩
    unfold Builtin.delete_
    simp[run_underlying hu,MapKept.run_getObj_map hb,hck,key _ h1,jW]
   ·simp only[Nat.zero_add]at h1
    refine⟨_,_,?_,hd,h.setM hh (en:=en.eraseIdxIfInBounds j) (ck:=ck) ?_⟩
    ·unfold Builtin.delete_
     simp[run_underlying hu,MapKept.run_getObj_map hb,hck,key _ h1,jW]
    ·have hj:j<en.size:=by omega
     rw[Array.eraseIdxIfInBounds,dif_pos hj,Array.toList_eraseIdx]
     exact⟨h3,hst.sub (List.eraseIdx_sublist _ _)⟩
  simp_all
 simp_all
end
def C4:TyD->Bool
 | .slice _=>true
 | _=>false
def cT:TV->Bool
 | .cst (.slice none 0 0)=>true
 | _=>false
def zee (op:BinOp) (x:TV) (K:TV->Prop):Prop :=
 match x with
 | .av (.slice _) (.sl _ xs)=>match op with
  | .eql=>(xs=[]->K (.av .bool (.b true)))/\K (.av .bool (.b false))
  | .neq=>(xs=[]->K (.av .bool (.b false)))/\K (.av .bool (.b true))
  | _=>False
 | .av (.slice _) .nsl=>match op with
  | .eql=>K (.av .bool (.b true))
  | .neq=>K (.av .bool (.b false))
  | _=>False
 | .av (.slice _) (.msl _ _ _ _ _)=>match op with
  | .eql=>K (.av .bool (.b false))
  | .neq=>K (.av .bool (.b true))
  | _=>False
 | _=>False
theorem zfx {P:Program} {s:St} {g:Gh} {w:World} {β:Nat->Nat} {op:BinOp} {T:TypeId} {ox oy:Operand} {x y:TV} {vx vy:Value} {K:TV->Prop} (hT:C4 (q9 P T)=true) (hx:TVR P s g w β x vx) (hy:TVR P s g w β y vy) (hn:cT y=true) (h:zee op x K) :
  ∃v tv,((do eqGuard op T ox oy vx vy;binOp op T vx vy):Sem Value).run P w=.ok v w/\K tv/\TVR P s g w β tv v:=by
 have hy':vy=.slice none 0 0:=by
  unfold cT at hn
  split at hn
  ·exact hy
  ·cases hn
 subst hy'
 obtain⟨e,hE⟩:∃e,q9 P T=.slice e:=by
  cases hq:q9 P T<;>rw[hq]at hT<;>simp[C4]at hT
  simp
 obtain⟨u,hu,hm⟩:=qO hE (by simp)
 simp only[zP]at hm;subst hm
 have run:∀(op:BinOp) (a:Option Addr) (n m:Nat),op=.eql\/op=.neq->((do eqGuard op T ox oy (.slice a n m) (.slice none 0 0);binOp op T (.slice a n m) (.slice none 0 0)):Sem Value).run P w=.ok (.bool (if op=.eql then a.isNone else !a.isNone)) w:=by
  intro op a n m ho
  have he:(Op.equal T (.slice a n m) (.slice none 0 0)).run P w=.ok a.isNone w:=by
   have e1:∀d:Nat,(Op.equalIn (d+1) T (.slice a n m) (.slice none 0 0)).run P w=.ok a.isNone w:=fun d=>by
    cases a<;>simp[Op.equalIn,run_underlying hu]
   exact e1 9999
  have hg:(eqGuard op T ox oy (.slice a n m) (.slice none 0 0)).run P w=.ok () w:=by
   simp[eqGuard]
  rcases ho with rfl|rfl
  ·simp_all[binOp]
  simp_all[binOp]
 unfold zee at h
 split at h
 ·rename_i e' t xs
  obtain⟨f,hv⟩:=hx
  simp only[VC]at hv
  obtain⟨e2,a,cap,_,hv,_,hrow,_⟩:=hv
  rw[qK rfl f]at hv
  simp only[List.cons.injEq,and_true]at hv
  subst hv
  split at h
  ·rw[run _ _ _ _ (.inl rfl)]
   cases a with
   | none =>
    have:xs=[]:=by simp_all
    exact⟨_,_,rfl,h.1 this,kB⟩
   | some a=>exact⟨_,_,rfl,h.2,kB⟩
  ·rw[run _ _ _ _ (.inr rfl)]
   cases a with
   | none =>
    have:xs=[]:=by simp_all
    exact⟨_,_,rfl,h.1 this,kB⟩
   | some a=>exact⟨_,_,rfl,h.2,kB⟩
  simp_all
 ·obtain⟨f,hv⟩:=hx
  simp only[VC]at hv
  obtain⟨_,_,hv⟩:=hv
  rw[qK rfl f]at hv
  simp only[List.cons.injEq,and_true]at hv
  subst hv
  split at h
  ·rw[run _ _ _ _ (.inl rfl)];exact⟨_,_,rfl,h,kB⟩
  ·rw[run _ _ _ _ (.inr rfl)];exact⟨_,_,rfl,h,kB⟩
  simp_all
 ·obtain⟨f,hv⟩:=hx
  simp only[VC]at hv
  obtain⟨_,hv⟩:=hv
  rw[qK rfl f]at hv
  simp only[List.cons.injEq,and_true]at hv
  subst hv
  split at h
  ·rw[run _ _ _ _ (.inl rfl)];exact⟨_,_,rfl,h,kB⟩
  ·rw[run _ _ _ _ (.inr rfl)];exact⟨_,_,rfl,h,kB⟩
  simp_all
 simp_all
theorem zcW {P:Program} {op:BinOp} {T:TypeId} {c:Bool} {x y:TV} {K:TV->Prop} (h:zf1 P op T c x y K):cT y=false:=by
 cases hn:cT y with
 | false=>rfl
 | true =>
  exfalso
  unfold cT at hn
  split at hn
  ·unfold zf1 at h
   grind [asI,asS,zbR,co,coC,WX]
  ·cases hn
noncomputable def yQ (P:Program) (cf:Cfg) (s:St) (o:Oper) (K:St->Prop):Prop :=
 match o.op with
 | .alloc T=>match o.dst with
  | some d=>zB P T=true/\(if cf.esc d=true then ∀b,b∉s.H.keys->K (({ s with H:=(b,.var (q9 P T) (zM P (cf.mtb d) T))::s.H }:St).put (some d) (.av .ptr (.ptr b (q9 P T) [])))
    else s.loc d=none/\K (({ s with loc:=upd s.loc d (some (q9 P T,zT P T)) }:St).put (some d) (.loc d [])))
  | none=>False
 | .box T x=>match o.dst,co (q9 P T) (ev s x)with
  | some d,some y=>if cf.esc d=true then ∀b,b∉s.H.keys->K (({ s with H:=(b,.var (q9 P T) y)::s.H }:St).put (some d) (.av .ptr (.ptr b (q9 P T) [])))
    else s.loc d=none/\K (({ s with loc:=upd s.loc d (some (q9 P T,y)) }:St).put (some d) (.loc d []))
  | _,_=>False
 | .build T parts=>if zfw cf o.dst=true then zhK P s T parts (Y6 s o.dst K) else V1 P s T parts (Y6 s o.dst K)
 | .buildSlice T n parts=>match q9 P T with
  | .slice e=>zB P e=true/\k7 P e=true/\n*P.cellsOf e<=16777216/\match y7 P s (fun _=>some e) parts.toList (List.replicate n (zT P e))with
   | some xs=>if zfw cf o.dst=true then ∀b,b∉s.H.keys->K (({ s with H:=(b,.var (.arr n e) (.agg xs))::s.H }:St).put o.dst (.av (.slice e) (.msl b e 0 n n)))
     else K (s.put o.dst (.av (.slice e) (.sl .full xs)))
   | none=>False
  | _=>False
 | .store T p v=>o.dst=none/\D5 P s T (ev s p) (ev s v) K
 | .call { callee:=.builtin .append,args,argTypes }=>match o.dst,args.toList,argTypes.toList with
  | some d,[x,y],[T,TX]=>match q9 P T with
   | .slice e=>match co (.slice e) (ev s x)with
    | some (.sl t xs)=>JP P s e TX (ev s y) fun ys=>y4 P s d e t xs ys K
    | some (.msl b e' off len cap)=>e'=e/\match q9 P TX with
     | .int _=>zab P s d e b off len cap (ev s y) K
     | _=>JP P s e TX (ev s y) fun ys=>U6 P s d e b off len cap ys K
    | some .nsl=>match q9 P TX with
     | .int _=>P7 P s d e (ev s y) K
     | _=>JP P s e TX (ev s y) fun ys=>VG P s d e ys K
    | _=>False
   | _=>False
  | _,_,_=>False
 | .makeMap T none=>match o.dst,q9 P T with
  | some d,.map k e=>∀b,b∉s.H.keys->K (({ s with H:=(b,.map k e [])::s.H }:St).put (some d) (.av (.map k e) (.map (some b))))
  | _,_=>False
 | .mapUpdate T m k v=>o.dst=none/\pL P s T (ev s m) (ev s k) (ev s v) K
 | .makeSlice T l m=>match o.dst with
  | some d=>uI P s T (ev s l) (ev s m) d K
  | none=>False
 | .range T x=>match o.dst,q9 P T,asS (ev s x)with
  | some d,.str,some l=>∀b,b∉s.H.keys->K (({ s with H:=(b,.siter l 0)::s.H }:St).put (some d) (.av .ptr (.ptr b .other [])))
  | some d,.map k e,_=>ze0 s (co (.map k e) (ev s x)) d K
  | _,_,_=>False
 | .next x false=>match o.dst with
  | some d=>zid P s (ev s x) d K
  | none=>False
 | .entry x=>zdR P s (ev s x) (Y6 s o.dst K)
 | .next x true=>match o.dst,ev s x with
  | some d,.av .ptr (.ptr b .other [])=>match (k8 s.H b).bind zek with
   | some (l,pos)=>if pos<l.length then K (({ s with H:=jW s.H b (.siter l (pos+(JC l pos).2)) }:St).put (some d) (.tup [(.bool,.b true),(.int .i64,.i .i64 pos),(.int .i32,.i .i32 (JC l pos).1)]))
     else K (s.put (some d) (.tup [(.bool,.b false)]))
   | none=>False
  | _,_=>False
 | .convert S D x=>match o.dst with
  | some d=>if C4 (q9 P D)=true then(if cf.mtb d=true then zjz P s S D (ev s x) d K else zju P s S D (ev s x) d K) else if q9 P D=.other\/q9 P S=.other then zpK P s S D (ev s x) (Y6 s o.dst K) else match PU (ev s x)with
   | some (b,e,off,len)=>znf P s S D b e off len (Y6 s o.dst K)
   | none=>zQ P s (.convert S D x) (Y6 s o.dst K)
  | none=>zQ P s (.convert S D x) (Y6 s o.dst K)
 | .call { callee:=.builtin .copy,args,argTypes }=>match args.toList,argTypes.toList with
  | [x,y],[T,TX]=>match q9 P T with
   | .slice e=>if zsW cf o.dst=true then zdV P s e TX (ev s x) (ev s y) o.dst K else zjc P s e TX (ev s x) (ev s y) o.dst K
   | _=>False
  | _,_=>False
 | .call { callee:=.builtin .clear,args,argTypes }=>match args.toList,argTypes.toList with
  | [x],[T]=>o.dst=none/\zeu P s T (ev s x) K
  | _,_=>False
 | .call { callee:=.builtin .delete,args,argTypes }=>match args.toList,argTypes.toList with
  | [x,y],[T,_]=>o.dst=none/\zoh P s T (ev s x) (ev s y) K
  | _,_=>False
 | .call { callee:=.builtin .unsafeString,args,argTypes }=>match o.dst,args.toList,argTypes.toList with
  | some d,[x,y],[T,_]=>zj2 P s T (ev s x) (ev s y) d K
  | _,_,_=>False
 | .call { callee:=.value f,args,.. }=>if qX P f=true then zrI P s f (args.toList.map (ev s)) o.dst K
  else JD P s (ev s f) (args.toList.map (ev s)) o.dst K
 | .binOp op T x y q=>if cT (ev s y)=true then C4 (q9 P T)=true/\zee op (ev s x) (Y6 s o.dst K) else zQ P s (.binOp op T x y q) (Y6 s o.dst K)
 | .insert T m k v=>o.dst=none/\pL P s T (ev s m) (ev s k) (ev s v) K
 | op=>zQ P s op (Y6 s o.dst K)
theorem zm6 {P:Program} {g:Gh} {w:World} {x:AV} {tv:TV} {d:TyD} {v:Value} (h:J0 x=some tv) (hf:kK d v) (hv:VC P g w d x v.cells.toList):AR P (g0 g.imm) w tv.er v:=by
 have hv':=uD x d _ hv
 cases x<;>simp only[J0]at h<;>cases h
 ·simp only[VC]at hv;obtain⟨rfl,_⟩:=hv;exact⟨hf,hv'⟩
 ·simp only[VC]at hv;obtain⟨rfl,_⟩:=hv;exact⟨hf,hv'⟩
 ·simp only[VC]at hv;obtain⟨rfl,_⟩:=hv;exact⟨hf,hv'⟩
 ·simp only[VC]at hv;obtain⟨rfl,_⟩:=hv;exact⟨hf,hv'⟩
 ·simp only[VC]at hv;obtain⟨rfl,_⟩:=hv;exact⟨hf,hv'⟩
theorem P6 {P:Program} {g:Gh} {w:World}:∀ {xs:List AV} {cs:List TV} {vs:List Value},xs.mapM J0=some cs->VA P g w xs vs->ARs P (g0 g.imm) w (cs.map TV.er) vs
 | [],cs,vs,hm,hv=>by simp at hm;subst hm;simp only[VA]at hv;subst hv;trivial
 | x::xs,cs,vs,hm,hv=>by
  rw[List.mapM_cons]at hm
  simp only[bind,Option.bind_eq_some_iff,pure,Option.some.injEq]at hm
  obtain⟨tv,h1,ys,h2,rfl⟩:=hm
  simp only[VA]at hv
  obtain⟨d,v,c2,rfl,hf,hv,hr⟩:=hv
  exact⟨zm6 h1 hf hv,P6 h2 hr⟩
theorem G4 {P:Program} {g:Gh} {w:World}:∀ {a b:List TV} {u v:List Value},ARs P g w a u->ARs P g w b v->ARs P g w (a++b) (u++v)
 | [],_,[],_,_,h=>h
 | _::_,_,_::_,_,h,h'=>⟨h.1,G4 h.2 h'⟩
 | [],_,_::_,_,h,_=>h.elim
 | _::_,_,[],_,h,_=>h.elim
theorem dL {P:Program} {s:St} {g:Gh} {w:World} {β:Nat->Nat} {imm:Nat->Nat} {γ:Nat->Nat->Option zk6} (hi:ZI (g0 imm) w) {tv:TV} {v:Value} (h:AR P (g0 imm) w tv v):TVR P s ⟨imm,γ⟩ w β tv v:=by
 have hle:(g0 imm).le ⟨imm,γ⟩:=⟨fun _=>Nat.le_refl _,fun _ _ _ e=>by cases e⟩
 have hk:jP (g0 imm) w w:=fun b cs E fz _ hb=>⟨cs,E,fz,hb,rfl,fun _ _=>rfl⟩
 cases tv with
 | av d x=>exact WB hle hi hk h
 | cst c=>exact h
 | tup xs=>obtain⟨vs,h1,h2⟩:=h;exact⟨vs,h1,zbf hle hi hk h2⟩
 | _=>exact h.elim
theorem zga {c:Ctx} (hl:laidOutB c.P=true) {cf:Cfg} {s:St} {a:Act} {w:World} {g:Gh} {β:Nat->Nat} (h:zF c s a w g β) {o:Oper} (hdst:∀d,o.dst=some d->d<c.n) (hny:∀f args tys l,o.op=.call ⟨.value f,args,tys⟩->ev s f≠.av .func (.yl l)) {K:St->Prop} (hv:yQ c.P cf s o K)
  {Q:Exit->Act->World->Prop}:o.wp c.P a w (wF c K) Q:=by
 obtain⟨dst,op,type,pos,after,guard⟩:=o
 simp only at hdst hny
 unfold yQ at hv
 unfold Oper.wp
 simp only at hv
 have val:∀ {u:Value} {w':World},(execOp a.eval ⟨dst,op,type,pos,after,guard⟩).run c.P w=.ok (.value u) w'->wF c K (a.put dst u) w'->
   Oper.upon c.P ⟨dst,op,type,pos,after,guard⟩ a (wF c K) Q ((execOp a.eval ⟨dst,op,type,pos,after,guard⟩).run c.P w):=by
  intro u w' hr hg;rw[hr];exact hg
 split at hv
 ·-- alloc
  rename_i T
  cases dst with
  | none=>exact hv.elim
  | some d =>
   simp only at hv
   obtain⟨hz,hv⟩:=hv
   obtain⟨z,hzr,hzv⟩:=K9 hz
   obtain⟨z2,hzr2,hzv2⟩:=zqv (cf.mtb d) hz
   obtain rfl:z=z2:=by have h1:=hzr2 w;rw[hzr w]at h1;simpa using h1
   have hz':=hzv g w
   have hz2:=hzv2 g w
   have hr:(execOp a.eval ⟨some d,.alloc T,type,pos,after,guard⟩).run c.P w=.ok (.value (.pointer (some ⟨w.heap.size,0,none⟩))) (World.push' w (.cells z.cells T (0,0))):=by
    simp[execOp,Instr.alloc,hzr,newVar,newRow];rfl
   refine val hr ?_
   split at hv
   ·obtain⟨h1,h2⟩:=h.newH (E:=T) hz2.2 (.inl rfl)
    refine⟨_,g,β,hv _ h2,h1.put hdst ?_⟩
    exact⟨rfl,rfl,0,q9 c.P T,rfl,rfl⟩
   ·obtain⟨hk,hv⟩:=hv
    refine⟨_,g,_,hv,(h.newLoc hk (E:=T) hz'.2 (.inl rfl)).put hdst ?_⟩
    exact⟨q9 c.P T,zT c.P T,0,q9 c.P T,by simp[upd],rfl,by simp[upd]⟩
 ·-- box
  rename_i T x
  cases dst with
  | none=>exact hv.elim
  | some d =>
   cases hc:co (q9 c.P T) (ev s x)with
   | none=>rw[hc]at hv;exact hv.elim
   | some y =>
    rw[hc]at hv
    simp only at hv
    have hy:=kQ hc (qT h x)
    have hr:(execOp a.eval ⟨some d,.box T x,type,pos,after,guard⟩).run c.P w=.ok (.value (.pointer (some ⟨w.heap.size,0,none⟩))) (World.push' w (.cells (a.eval x).cells T (0,0))):=by
     simp[execOp,Instr.box,newVar,newRow];rfl
    refine val hr ?_
    split at hv
    ·obtain⟨h1,h2⟩:=h.newH (E:=T) hy.2 (.inl rfl)
     refine⟨_,g,β,hv _ h2,h1.put hdst ?_⟩
     exact⟨rfl,rfl,0,q9 c.P T,rfl,rfl⟩
    ·obtain⟨hk,hv⟩:=hv
     refine⟨_,g,_,hv,(h.newLoc hk (E:=T) hy.2 (.inl rfl)).put hdst ?_⟩
     exact⟨q9 c.P T,y,0,q9 c.P T,by simp[upd],rfl,by simp[upd]⟩
 ·-- build
  rename_i T parts
  split at hv
  ·obtain⟨u,tu,hr,hk,ht⟩:=ze2 hl h hv
   exact val (by simp only[execOp,Sem.run_bind,hr,Result.andThen_ok,Sem.run_pure]) ⟨_,g,β,hk,h.put hdst ht⟩
  ·obtain⟨u,tu,hr,hk,ht⟩:=zfJ hl h hv
   exact val (by simp only[execOp,Sem.run_bind,hr,Result.andThen_ok,Sem.run_pure]) ⟨_,g,β,hk,h.put hdst ht⟩
 ·-- buildSlice
  rename_i T n parts
  cases hT:q9 c.P T<;>rw[hT]at hv<;>try (exact hv.elim)
  rename_i e
  simp only at hv
  obtain⟨hz,hp,hsm,hv⟩:=hv
  obtain⟨u,hu,hm⟩:=qO hT (by simp)
  simp only[zP]at hm;subst hm
  obtain⟨ie,hie⟩:=jV hp
  obtain⟨z,hzr,hzv⟩:=K9 hz
  cases hb:y7 c.P s (fun _=>some e) parts.toList (List.replicate n (zT c.P e))with
  | none=>rw[hb]at hv;exact hv.elim
  | some xs =>
   rw[hb]at hv
   simp only at hv
   have hz':=hzv g w
   have hne:=y5 hl _ _ _ hz'.2
   have hzs:z.cells.size=c.P.cellsOf e:=by rw[<-Array.length_toList,wN hl _ _ _ hne hz'.2,jG hl hne]
   have hpos:0<c.P.cellsOf e:=by simpa[k7]using hp
   have hzl:=K8 hz'.2 hzs (by omega) n
   obtain⟨cells',hf,hvl⟩:=P5 hl h parts.toList _ xs _ hzl hb
   have hlen:xs.length=n:=by rw[uT _ _ _ hb];simp
   have hcl:cells'.size=xs.length*c.P.cellsOf e:=by rw[<-Array.length_toList,ZD hl _ _ _ hvl]
   have hparts:(parts.map fun(i,x)=>(i,a.eval x)).toList=parts.toList.map fun x=>(x.1,a.eval x.2):=by simp
   have hr:(execOp a.eval ⟨dst,.buildSlice T n parts,type,pos,after,guard⟩).run c.P w=.ok (.value (.slice (some ⟨w.heap.size,0,none⟩) n n)) (World.push' w (.cells cells' e (0,0))):=by
    simp only[execOp,Instr.buildSlice,Sem.run_bind,run_underlying hu,run_sizeOf w hie,Result.andThen_ok,Sem.run_ite]
    rw[if_neg (by omega)]
    by_cases h0:n*c.P.cellsOf e=0
    ·have hn0:n=0:=by rcases Nat.mul_eq_zero.1 h0 with h1|h1;exact h1;omega
     subst hn0
     rw[Nat.zero_mul]at hf |-
     simp only[if_true,Sem.run_pure,Result.andThen_ok]
     have e0:(Array.range 0).map (fun x=>(#[]:Array Value)[x % (#[]:Array Value).size]!)=(Array.range 0).map (z.cells[· % z.cells.size]!):=by simp
     rw[e0,hparts,hf]
     simp[newRow];rfl
    ·simp only[h0,if_false,Sem.run_bind,hzr,Result.andThen_ok,Sem.run_pure]
     rw[hparts,hf]
     simp[newRow];rfl
   by_cases hmt:zfw cf dst=true
   ·rw[if_pos hmt]at hv
    obtain⟨h3,h4⟩:=h.newH (E:=e) (d:=.arr n e) (x:=.agg xs) (cs:=cells') (by simp only[VC];exact⟨hlen,hvl⟩) (.inr ⟨_,rfl⟩)
    refine val hr ⟨_,_,β,hv _ h4,h3.put hdst ⟨rfl,?_⟩⟩
    simp[VC,Value.cells]
   rw[if_neg hmt]at hv
   have h1:=h.push (.cells cells' e (0,0)) (xs.length*c.P.cellsOf e) (fun _=>⟨cells',e,(0,0),rfl,by omega⟩)
   refine val hr ⟨_,_,β,hv,h1.put hdst ?_⟩
   have hle:g.le { g with imm:=upd g.imm w.heap.size (xs.length*c.P.cellsOf e) }:=by
    refine⟨fun b'=>?_,fun _ _ _ e=>e⟩
    simp only[upd];split
    ·rename_i e';rw[e',ZJ h.rep.imm (Nat.le_refl _)];exact Nat.zero_le _
    ·exact Nat.le_refl _
   have hcells:zU (World.push' w (.cells cells' e (0,0))) w.heap.size 0 (xs.length*c.P.cellsOf e)=cells'.toList:=by
    unfold zU
    rw[Z0]
    simp only[List.drop_zero]
    rw[List.take_of_length_le (by simp[hcl])]
   have hvv:=vG (P:=c.P) (g:={ g with imm:=upd g.imm w.heap.size (xs.length*c.P.cellsOf e) }) (w:=World.push' w (.cells cells' e (0,0))) (e:=e) (t:=.full) (xs:=xs) (a:=some ⟨w.heap.size,0,none⟩) (cap:=n) (by omega)
    (.inr ⟨w.heap.size,0,rfl,by simp[upd],by rw[hcells];exact JS hle h.rep.imm yC _ _ _ hvl⟩) hlen.symm
   rw[hlen]at hvv |-
   exact hvv
 ·-- store
  rename_i T p v
  obtain⟨hd0,hv⟩:=hv
  subst hd0
  unfold D5 at hv
  cases hc:co (q9 c.P T) (ev s v)with
  | none=>rw[hc]at hv;exact hv.elim
  | some y =>
   rw[hc]at hv
   simp only at hv
   have hy:=kQ hc (qT h v)
   have hp:=qT h p
   have hyne:=y5 hl _ _ _ hy.2
   split at hv
   ·rename_i k path hev
    rw[hev]at hp
    obtain⟨d,x,off,d',h1,h2,hp⟩:=hp
    rw[h1]at hv
    obtain⟨hsub,hgp,hv⟩:=hv
    have hs:=WW (P:=c.P) path d
    rw[h2]at hs
    simp only[Option.map_some]at hs
    rw[hsub]at hs;cases hs
    obtain⟨u,hu⟩:=Option.isSome_iff_exists.1 hgp
    obtain⟨cs,hcs,hvc⟩:=(h.locs k d x h1).block
    obtain⟨_,hle⟩:=xL hl hvc h2 hu
    have jW:=zjt hl hvc h2 hu hy.2
    obtain⟨r1,r2⟩:=U8 hl hcs (T:=T) (by simpa using hle) hy
    have hr:(execOp a.eval ⟨none,.store T p v,type,pos,after,guard⟩).run c.P w=.ok .skip (w.setRow (β k) (cs.toList.take off++(a.eval v).cells.toList++cs.toList.drop (off+szD c.P (q9 c.P T))).toArray):=by
     simp[execOp,Instr.storeAt,hp,Instr.sureAddr,r1]
    rw[hr]
    exact⟨_,g,β,hv,h.setLoc h1 hcs r2 (by simpa using jW)⟩
   ·rename_i b d path hev
    rw[hev]at hp
    obtain⟨f',hp⟩:=hp
    simp only[VC]at hp
    obtain⟨_,off,t,ho,hp⟩:=hp
    rw[qK rfl f']at hp
    simp only[List.cons.injEq,and_true]at hp
    cases hh:k8 s.H b with
    | none=>rw[hh]at hv;exact hv.elim
    | some o =>
     rw[hh]at hv
     cases o with
     | map k e es=>exact hv.elim
     | raw _ _ _=>exact hv.elim
     | var d0 x =>
      obtain⟨rfl,hsub,hgp,hv⟩:=hv
      have hs:=WW (P:=c.P) path d0
      rw[ho]at hs
      simp only[Option.map_some]at hs
      rw[hsub]at hs;cases hs
      obtain⟨u,hu⟩:=Option.isSome_iff_exists.1 hgp
      obtain⟨_,cs,hcs,hvc⟩:=h.rep.obj b _ (jA hh)
      obtain⟨_,hle⟩:=xL hl hvc ho hu
      have jW:=zjt hl hvc ho hu hy.2
      obtain⟨r1,r2⟩:=U8 hl hcs (T:=T) (by simpa using hle) hy
      have hr:(execOp a.eval ⟨none,.store T p v,type,pos,after,guard⟩).run c.P w=.ok .skip (w.setRow b (cs.toList.take off++(a.eval v).cells.toList++cs.toList.drop (off+szD c.P (q9 c.P T))).toArray):=by
       simp[execOp,Instr.storeAt,hp,Instr.sureAddr,r1]
      rw[hr]
      exact⟨_,g,β,hv,h.setH hh hcs r2 (by simpa using jW)⟩
   ·exact hv.elim
 ·-- append
  rename_i args argTypes
  split at hv
  ·rename_i d x y T TX hargs htys
   have e1:args=#[x,y]:=by cases args;simp_all
   have e2:argTypes=#[T,TX]:=by cases argTypes;simp_all
   subst e1;subst e2
   cases hT:q9 c.P T<;>rw[hT]at hv<;>try (exact hv.elim)
   rename_i e
   simp only at hv
   cases hc:co (.slice e) (ev s x)with
   | none=>rw[hc]at hv;exact hv.elim
   | some ax =>
    rw[hc]at hv
    have hx:=kQ hc (qT h x)
    cases ax<;>simp only at hv<;>try (exact hv.elim)
    ·rename_i t xs
     obtain⟨ys,news,hk,hsrc,hvl⟩:=WC hl h (qT h y) hv
     obtain⟨u,w',s',g',hr,hK,hS⟩:=zeC hl h (T:=T) (TX:=TX) (ty:=type) hT hx hsrc hvl (hdst d rfl) hk
     refine val (u:=u) (w':=w') ?_ ⟨s',g',β,hK,hS⟩
     simp[execOp,resolve,invoke,builtin,hr]
    ·rename_i b e' off len cap
     obtain⟨rfl,hv⟩:=hv
     obtain⟨f,hx⟩:=hx
     simp only[VC]at hx
     obtain⟨_,hx⟩:=hx
     rw[qK rfl f]at hx
     have hx':a.eval x=.slice (some ⟨b,off*c.P.cellsOf e',none⟩) len cap:=by simpa using hx
     by_cases hi:∃kn,q9 c.P TX=.int kn
     ·obtain⟨kn,hTX⟩:=hi
      rw[hTX]at hv
      simp only at hv
      obtain⟨u,w',s',hr,hK,hS⟩:=zcr hl h (T:=T) (TX:=TX) (ty:=type) hT hTX (hdst d rfl) (qT h y) hv
      refine val (u:=u) (w':=w') ?_ ⟨s',g,β,hK,hS⟩
      rw[<-hx']at hr
      simp[execOp,resolve,invoke,builtin,hr]
     ·have hv:JP c.P s e' TX (ev s y) fun ys=>U6 c.P s d e' b off len cap ys K:=by
       cases hTX:q9 c.P TX<;>rw[hTX]at hv<;>first|exact hv|exact absurd ⟨_,hTX⟩ hi
      obtain⟨ys,news,hk,hsrc,hvl⟩:=WC hl h (qT h y) hv
      obtain⟨u,w',s',hr,hK,hS⟩:=zcj hl h (T:=T) (TX:=TX) (ty:=type) hT (hdst d rfl) hsrc hvl hk
      refine val (u:=u) (w':=w') ?_ ⟨s',g,β,hK,hS⟩
      rw[<-hx']at hr
      simp[execOp,resolve,invoke,builtin,hr]
    ·obtain⟨f,hx⟩:=hx
     simp only[VC]at hx
     obtain⟨_,_,hx⟩:=hx
     rw[qK rfl f]at hx
     have hx':a.eval x=.slice none 0 0:=by simpa using hx
     by_cases hi:∃kn,q9 c.P TX=.int kn
     ·obtain⟨kn,hTX⟩:=hi
      rw[hTX]at hv
      simp only at hv
      obtain⟨u,w',s',hr,hK,hS⟩:=zbY hl h (T:=T) (TX:=TX) (ty:=type) hT hTX (hdst d rfl) (qT h y) hv
      refine val (u:=u) (w':=w') ?_ ⟨s',g,β,hK,hS⟩
      rw[<-hx']at hr
      simp[execOp,resolve,invoke,builtin,hr]
     have hv:JP c.P s e TX (ev s y) fun ys=>VG c.P s d e ys K:=by
      cases hTX:q9 c.P TX<;>rw[hTX]at hv<;>first|exact hv|exact absurd ⟨_,hTX⟩ hi
     obtain⟨ys,news,hk,hsrc,hvl⟩:=WC hl h (qT h y) hv
     obtain⟨u,w',s',hr,hK,hS⟩:=zcp hl h (T:=T) (TX:=TX) (ty:=type) hT (hdst d rfl) hsrc hvl hk
     refine val (u:=u) (w':=w') ?_ ⟨s',g,β,hK,hS⟩
     rw[<-hx']at hr
     simp[execOp,resolve,invoke,builtin,hr]
  ·exact hv.elim
 ·-- makeMap
  rename_i T
  split at hv
  ·rename_i d k e hT
   obtain⟨h1,h2⟩:=h.newO (o:=.map #[] 0) (x:=.map k e []) (fun g' hg'=>⟨by rw[hg'];exact ZJ h.rep.imm (Nat.le_refl _),#[],0,Z0 w _,trivial,QS.nil⟩)
   have hr:(execOp a.eval ⟨some d,.makeMap T none,type,pos,after,guard⟩).run c.P w=.ok (.value (.map (some w.heap.size))) (World.push' w (.map #[] 0)):=by
    simp[execOp,Instr.makeMap,newObj,Sem.run]
    rfl
   refine val hr ⟨_,g,β,hv _ h2,h1.put hdst ⟨rfl,?_⟩⟩
   exact⟨k,e,rfl,rfl⟩
  ·exact hv.elim
 ·-- mapUpdate
  rename_i T m k v
  obtain⟨hd0,hv⟩:=hv
  subst hd0
  obtain⟨w',s',hr,hK,hS⟩:=P0 hl h hv
  have hr':(execOp a.eval ⟨none,.mapUpdate T m k v,type,pos,after,guard⟩).run c.P w=.ok .skip w':=by simp[execOp,hr]
  rw[hr']
  exact⟨s',g,β,hK,hS⟩
 ·-- makeSlice
  rename_i T l m
  cases dst with
  | none=>exact hv.elim
  | some d =>
   obtain⟨u,w',s',hr,hK,hS⟩:=CU hl h (hdst d rfl) hv
   exact val (u:=u) (w':=w') (by simp[execOp,hr]) ⟨s',g,β,hK,hS⟩
 ·-- range
  rename_i T x
  split at hv
  ·rename_i d l hT hs
   obtain⟨u,hu,hm⟩:=qO hT (by simp)
   simp only[zP]at hm;subst hm
   obtain⟨⟨⟨l'⟩⟩,hx,hl'⟩:=KI hs (qT h x)
   obtain rfl:l'=l:=hl'
   obtain⟨h1,h2⟩:=h.newO (o:=.stringIter ⟨l'.toArray⟩ 0) (x:=.siter l' 0) (fun g' hg'=>⟨by rw[hg'];exact ZJ h.rep.imm (Nat.le_refl _),Z0 w _,⟨⟨fun _=>Nat.zero_le _,fun _ _ _ _ h0=>absurd h0 (Nat.lt_irrefl 0)⟩,rfl⟩⟩)
   have hr:(execOp a.eval ⟨some d,.range T x,type,pos,after,guard⟩).run c.P w=.ok (.value (.pointer (some ⟨w.heap.size,0,none⟩))) (World.push' w (.stringIter ⟨l'.toArray⟩ 0)):=by
    simp[execOp,Instr.range,run_underlying hu,hx,newObj,Sem.run]
    rfl
   refine val hr ⟨_,g,β,hv _ h2,h1.put hdst ⟨rfl,?_⟩⟩
   exact⟨rfl,0,.other,rfl,rfl⟩
  ·rename_i _ d k e hT
   obtain⟨u,hu,hm⟩:=qO hT (by simp)
   simp only[zP]at hm;subst hm
   unfold ze0 at hv
   split at hv
   ·rename_i b hc
    have hx:=kQ hc (qT h x)
    obtain⟨f,hx⟩:=hx
    simp only[VC]at hx
    obtain⟨_,_,_,hx⟩:=hx
    rw[qK rfl f]at hx
    simp only[List.cons.injEq,and_true]at hx
    split at hv
    ·rename_i en ck i0 w0 hg
     obtain⟨_,hb0,_⟩:=h.rep.obj b _ (jA hg)
     obtain⟨h1,h2⟩:=h.newO (o:=.mapIter (some b) ck #[] ck) (x:=.raw (.mapIter (some b) ck #[] ck) (fun _=>0) default) (fun g' hg'=>⟨by rw[hg'];exact ZJ h.rep.imm (Nat.le_refl _),Z0 w _,⟨⟨fun _=>Nat.zero_le _,fun _ _ _ _ h0=>absurd h0 (Nat.lt_irrefl 0)⟩,rfl⟩⟩)
     have hr:(execOp a.eval ⟨some d,.range T x,type,pos,after,guard⟩).run c.P w=.ok (.value (.pointer (some ⟨w.heap.size,0,none⟩))) (World.push' w (.mapIter (some b) ck #[] ck)):=by
      simp[execOp,Instr.range,run_underlying hu,hx,newObj,getObj,Sem.run,hb0]
      rfl
     refine val hr ⟨_,g,β,hv _ h2,h1.put hdst ⟨rfl,?_⟩⟩
     exact⟨rfl,0,.other,rfl,rfl⟩
    ·exact hv.elim
   ·exact hv.elim
  ·exact hv.elim
 ·-- next of a map
  rename_i x
  cases dst with
  | none=>exact hv.elim
  | some d =>
  simp only at hv
  unfold zid at hv
  split at hv
  ·rename_i b hev
   have hx:=qT h x
   rw[hev]at hx
   obtain⟨hx0,hx⟩:=hx
   simp only[VC]at hx
   obtain⟨_,off,t,ho,hx⟩:=hx
   simp only[Z7,Option.some.injEq,Prod.mk.injEq]at ho
   obtain⟨rfl,rfl⟩:=ho
   rw[qK rfl hx0]at hx
   simp only[List.cons.injEq,and_true]at hx
   split at hv
   ·rename_i m since seen last i1 w1 hg
    split at hv
    ·rename_i en ck i0 w0 hm
     obtain⟨k,e,es,hop,hck,hsl,hv1,hv2⟩:=hv
     obtain⟨_,hb0,_⟩:=h.rep.obj b _ (jA hg)
     obtain⟨_,hm0,hlat⟩:=h.rep.obj m _ (jA hm)
     rcases zeI (P:=c.P) type hb0 hm0 (fun y hy=>Nat.lt_of_lt_of_le (hop.st.1 y hy) hck) hsl with⟨h1,h2⟩|⟨me,h1,n,hn,h2⟩
     ·have hr:(execOp a.eval ⟨some d,.next x false,type,pos,after,guard⟩).run c.P w=.ok (.value (.tuple #[.bool false])) w:=by
       simp only[execOp,hx,Sem.run_bind,h2,Result.andThen_ok,Sem.run_pure]
      refine val hr ⟨_,g,β,hv1 (fun i me hi=>?_),h.put hdst ⟨_,rfl,⟨rfl,rfl,rfl⟩,trivial⟩⟩
      have:=all_seen en seen h1 me (by
       have:=(Array.getElem?_eq_some_iff.1 hi)
       obtain⟨q,hq⟩:=this
       rw[<-hq];simp)
      simpa using this
     ·obtain⟨hmem,hns⟩:=mem_left h1
      obtain⟨i,hi,hie⟩:=List.getElem_of_mem hmem
      have hi':en.toList[i]?=some me:=by rw[List.getElem?_eq_getElem hi,hie]
      obtain⟨u,v,hes,hu,hv'⟩:=vA hop.ents i me hi'
      have h3:=(h.drew n hn).setRaw (b:=b) (r':=.mapIter (some m) since (seen.push me.born) ck) (i1:=fun _=>0) (w1:=default) hg ⟨⟨fun _=>Nat.zero_le _,fun _ _ _ _ h0=>absurd h0 (Nat.lt_irrefl 0)⟩,rfl⟩
      have hr:(execOp a.eval ⟨some d,.next x false,type,pos,after,guard⟩).run c.P w=.ok (.value (.tuple #[.bool true,me.key,me.val])) (World.setM { w with drawn:=n } b (.mapIter (some m) since (seen.push me.born) ck)):=by
       simp only[execOp,hx,Sem.run_bind,h2,Result.andThen_ok,Sem.run_pure]
      have hmb:m≠b:=fun e=>by subst e;rw[hb0]at hm0;cases hm0
      have hgm:k8 (jW s.H b (.raw (.mapIter (some m) since (seen.push me.born) ck) (fun _=>0) default)) m=some (.raw (.map en ck) i0 w0):=by rw[PW hmb];exact hm
      obtain⟨_,_,hlat3⟩:=h3.rep.obj m _ (jA hgm)
      have hle:(g0 i0).le g:=⟨hlat3.1.1,fun _ _ _ e=>by cases e⟩
      have hk:jP (g0 i0) w0 (World.setM { w with drawn:=n } b (.mapIter (some m) since (seen.push me.born) ck)):=fun b cs E fz h0 hb=>hlat3.1.2 b cs E fz h0 hb
      refine val hr ⟨_,g,β,hv2 i me u v (by simpa using hi') (by simpa using hns) hes,h3.put hdst ⟨_,rfl,⟨rfl,rfl,rfl⟩,WB hle hop.imm hk hu,WB hle hop.imm hk hv',trivial⟩⟩
    ·exact hv.elim
   ·exact hv.elim
  ·exact hv.elim
 ·-- entry
  rename_i x
  unfold zdR at hv
  split at hv
  ·rename_i b hev
   have hx:=qT h x
   rw[hev]at hx
   obtain⟨hx0,hx⟩:=hx
   simp only[VC]at hx
   obtain⟨_,off,t,ho,hx⟩:=hx
   simp only[Z7,Option.some.injEq,Prod.mk.injEq]at ho
   obtain⟨rfl,rfl⟩:=ho
   rw[qK rfl hx0]at hx
   simp only[List.cons.injEq,and_true]at hx
   split at hv
   ·rename_i m since seen last i1 w1 hg
    split at hv
    ·rename_i en ck i0 w0 hm
     obtain⟨k,e,es,i,me,u,v,hop,hlast,hen,hes,hback,hv⟩:=hv
     subst hlast
     obtain⟨_,hb0,_⟩:=h.rep.obj b _ (jA hg)
     obtain⟨_,hm0,hlat⟩:=h.rep.obj m _ (jA hm)
     have hfind:en.find? (·.born==me.born)=some me:=by
      rw[<-Array.find?_toList]
      exact find_born me en.toList hop.st.2 (by
       obtain⟨q,hq⟩:=Array.getElem?_eq_some_iff.1 hen
       rw[<-hq];simp)
     have hr:(execOp a.eval ⟨dst,.entry x,type,pos,after,guard⟩).run c.P w=.ok (.value (.tuple #[me.key,me.val])) w:=by
      simp only[execOp,hx,Instr.entry,getObj,Sem.run_bind,Sem.run,hb0,hm0,Result.andThen,hback,hfind,bne_self_eq_false,Bool.false_eq_true,if_false]
      rfl
     obtain⟨u',v',hes',hu,hv'⟩:=vA hop.ents i me (by simpa using hen)
     rw[hes]at hes';cases hes'
     have hle:(g0 i0).le g:=⟨hlat.1.1,fun _ _ _ e=>by cases e⟩
     have hk:jP (g0 i0) w0 w:=fun b cs E fz h0 hb=>hlat.1.2 b cs E fz h0 hb
     exact val hr ⟨_,g,β,hv,h.put hdst ⟨_,rfl,WB hle hop.imm hk hu,WB hle hop.imm hk hv',trivial⟩⟩
    ·exact hv.elim
   ·exact hv.elim
  ·exact hv.elim
 ·-- next
  rename_i x
  split at hv
  ·rename_i d b hev
   have hx:=qT h x
   rw[hev]at hx
   obtain⟨hx0,hx⟩:=hx
   simp only[VC]at hx
   obtain⟨_,off,t,ho,hx⟩:=hx
   simp only[Z7,Option.some.injEq,Prod.mk.injEq]at ho
   obtain⟨rfl,rfl⟩:=ho
   rw[qK rfl hx0]at hx
   simp only[List.cons.injEq,and_true]at hx
   cases hg:k8 s.H b with
   | none=>rw[hg]at hv;exact hv.elim
   | some ob =>
    rw[hg]at hv
    cases ob with
    | var _ _=>exact hv.elim
    | map _ _ _=>exact hv.elim
    | raw o i0 w0 =>
     cases o with
     | stringIter ss ps =>
      obtain⟨⟨sl⟩⟩:=ss
      simp only[Option.bind_some,zek]at hv
      obtain⟨_,hb0,_⟩:=h.rep.obj b _ (jA hg)
      split at hv
      ·rename_i hlt
       have h1:=h.setRaw (r':=.stringIter ⟨sl.toArray⟩ (ps+(JC sl ps).2)) (i1:=fun _=>0) (w1:=default) hg ⟨⟨fun _=>Nat.zero_le _,fun _ _ _ _ h0=>absurd h0 (Nat.lt_irrefl 0)⟩,rfl⟩
       have hr:(execOp a.eval ⟨some d,.next x true,type,pos,after,guard⟩).run c.P w=.ok (.value (.tuple #[.bool true,.int .i64 ps,.int .i32 (JC sl ps).1])) (World.setM w b (.stringIter ⟨sl.toArray⟩ (ps+(JC sl ps).2))):=by
        have hlt':ps<(ByteArray.mk sl.toArray).size:=hlt
        simp[execOp,Instr.next,hx,getObj,setObj,Sem.run,hb0,hlt',goInt]
        exact⟨rfl,rfl⟩
       refine val hr ⟨_,g,β,hv,h1.put hdst ?_⟩
       exact⟨_,rfl,⟨rfl,rfl,rfl⟩,⟨rfl,rfl,rfl⟩,⟨rfl,rfl,rfl⟩,trivial⟩
      ·rename_i hlt
       have hr:(execOp a.eval ⟨some d,.next x true,type,pos,after,guard⟩).run c.P w=.ok (.value (.tuple #[.bool false])) w:=by
        have hlt':¬ps<(ByteArray.mk sl.toArray).size:=hlt
        simp[execOp,Instr.next,hx,getObj,Sem.run,hb0,hlt']
       refine val hr ⟨_,g,β,hv,h.put hdst ?_⟩
       exact⟨_,rfl,⟨rfl,rfl,rfl⟩,trivial⟩
     | _=>exact hv.elim
  ·exact hv.elim
 ·-- convert
  rename_i S D x
  cases dst with
  | none =>
   obtain⟨u,tu,hr,hk',ht⟩:=WV hl h (o:=⟨none,.convert S D x,type,pos,after,guard⟩) hv
   exact val hr ⟨_,g,β,hk',h.put hdst ht⟩
  | some d =>
   simp only at hv
   by_cases hsl:C4 (q9 c.P D)=true
   ·rw[if_pos hsl]at hv
    by_cases hmt:cf.mtb d=true
    ·rw[if_pos hmt]at hv
     obtain⟨u,w',s',g',hr,hK,hS⟩:=zeW hl h (hdst d rfl) hv
     exact val (u:=u) (w':=w') (by simp[execOp,hr]) ⟨s',g',β,hK,hS⟩
    rw[if_neg hmt]at hv
    obtain⟨u,w',s',g',hr,hK,hS⟩:=zeZ hl h (hdst d rfl) hv
    exact val (u:=u) (w':=w') (by simp[execOp,hr]) ⟨s',g',β,hK,hS⟩
   ·rw[if_neg hsl]at hv
    by_cases hot:q9 c.P D=.other\/q9 c.P S=.other
    ·rw[if_pos hot]at hv
     obtain⟨u,tu,hr,hk',ht⟩:=zkW hl h (qT h x) hv
     exact val (u:=u) (w':=w) (by simp[execOp,hr]) ⟨_,g,β,hk',h.put hdst ht⟩
    ·rw[if_neg hot]at hv
     cases hm:PU (ev s x)with
     | some q =>
      obtain⟨b,e,off,len⟩:=q
      rw[hm]at hv
      obtain⟨u,tu,hr,hk',ht⟩:=zim hl h (qT h x) hm hv
      exact val (u:=u) (w':=w) (by simp[execOp,hr]) ⟨_,g,β,hk',h.put hdst ht⟩
     | none =>
      rw[hm]at hv
      obtain⟨u,tu,hr,hk',ht⟩:=WV hl h (o:=⟨some d,.convert S D x,type,pos,after,guard⟩) hv
      exact val hr ⟨_,g,β,hk',h.put hdst ht⟩
 ·-- copy
  rename_i args argTypes
  split at hv
  ·rename_i x y T TX hargs htys
   have e1:args=#[x,y]:=by cases args;simp_all
   have e2:argTypes=#[T,TX]:=by cases argTypes;simp_all
   subst e1;subst e2
   cases hT:q9 c.P T<;>rw[hT]at hv<;>try (exact hv.elim)
   simp only at hv
   split at hv
   ·obtain⟨u,w',s',hr,hK,hS⟩:=zgY hl h (T:=T) (TX:=TX) (ty:=type) hT (qT h x) (qT h y) hdst hv
    refine val (u:=u) (w':=w') ?_ ⟨s',g,β,hK,hS⟩
    simp[execOp,resolve,invoke,builtin,hr]
   ·obtain⟨u,w',s',hr,hK,hS⟩:=zhT hl h (T:=T) (TX:=TX) (ty:=type) hT (qT h x) (qT h y) hdst hv
    refine val (u:=u) (w':=w') ?_ ⟨s',g,β,hK,hS⟩
    simp[execOp,resolve,invoke,builtin,hr]
  ·exact hv.elim
 ·-- clear
  rename_i args argTypes
  split at hv
  ·rename_i x T hargs htys
   have e1:args=#[x]:=by cases args;simp_all
   have e2:argTypes=#[T]:=by cases argTypes;simp_all
   subst e1;subst e2
   obtain⟨hd0,hv⟩:=hv
   subst hd0
   obtain⟨w',s',hr,hK,hS⟩:=zgC hl h (ty:=type) (qT h x) hv
   refine val (u:=.tuple #[]) (w':=w') ?_ ⟨s',g,β,hK,hS⟩
   simp[execOp,resolve,invoke,builtin,hr]
  ·exact hv.elim
 ·-- delete
  rename_i args argTypes
  split at hv
  ·rename_i x y T TK hargs htys
   have e1:args=#[x,y]:=by cases args;simp_all
   have e2:argTypes=#[T,TK]:=by cases argTypes;simp_all
   subst e1;subst e2
   obtain⟨hd0,hv⟩:=hv
   subst hd0
   obtain⟨w',s',hr,hK,hS⟩:=zcR hl h (TK:=TK) (ty:=type) (qT h x) (qT h y) hv
   refine val (u:=.tuple #[]) (w':=w') ?_ ⟨s',g,β,hK,hS⟩
   simp[execOp,resolve,invoke,builtin,hr]
  ·exact hv.elim
 ·-- a row's bytes,taken over
  rename_i args argTypes
  split at hv
  ·rename_i d x y T it hargs htys
   have e1:args=#[x,y]:=by cases args;simp_all
   have e2:argTypes=#[T,it]:=by cases argTypes;simp_all
   subst e1;subst e2
   obtain⟨u,w',s',hr,hK,hS⟩:=zhn hl h (T:=T) (it:=it) (ty:=type) (qT h x) (qT h y) (hdst d rfl) hv
   refine val (u:=u) (w':=w') ?_ ⟨s',g,β,hK,hS⟩
   simp[execOp,resolve,invoke,builtin,hr]
  ·exact hv.elim
 ·-- call
  rename_i f args argTypes
  split at hv
  ·rename_i hne
   unfold zrI at hv
   split at hv
   ·rename_i d x hargs
    obtain⟨hok,hv⟩:=hv
    obtain⟨l⟩:=args
    match l,hargs with
    | [x0],hargs =>
     simp only[List.map_cons,List.map_nil,List.cons.injEq,and_true]at hargs
     subst hargs
     cases f with
     | func gf =>
      obtain⟨fn,f1,f2,f3,f4,f5⟩:=hok
      have hr:=run_callFunc_extern (P:=c.P) f1 f2 f3 f4 f5 #[a.eval x0] w
      rw[Lib.run_noEscape]at hr
      simp only[Result.andThen_ok]at hr
      refine val (u:=a.eval x0) (w':=w) ?_ ⟨_,g,β,hv,h.put hdst (qT h x0)⟩
      have hfe:a.eval (.func gf)=.func (.func gf) #[] #[]:=rfl
      simp[execOp,resolve,hfe,Deferred.ofValue,invoke,hr]
     | _=>exact hok.elim
   ·rename_i d x y hargs
    split at hv
    ·obtain⟨l⟩:=args
     match l,hargs with
     | [x0,y0],hargs =>
      simp only[List.map_cons,List.map_nil,List.cons.injEq,and_true]at hargs
      obtain⟨rfl,rfl⟩:=hargs
      cases f with
      | func gf =>
       obtain⟨fn,e,n,f1,f2,f3,f4,f5,f6,hv⟩:=zkH hl h (qT h x0) (qT h y0) hv
       have hr:=run_callFunc_extern (P:=c.P) f1 f2 f3 f4 f5 #[a.eval x0,a.eval y0] w
       rw[f6]at hr
       simp only[Result.andThen_ok]at hr
       refine val (u:=.int .i64 n) (w':=w) ?_ ⟨_,g,β,hv,h.put hdst kT⟩
       have hfe:a.eval (.func gf)=.func (.func gf) #[] #[]:=rfl
       simp[execOp,resolve,hfe,Deferred.ofValue,invoke,hr]
      | _ =>
       unfold znd at hv
       split at hv
       ·exact hv.1.elim
       ·exact hv.elim
    obtain⟨hok,hv⟩:=hv
    obtain⟨l⟩:=args
    match l,hargs with
    | [x0,y0],hargs =>
     simp only[List.map_cons,List.map_nil,List.cons.injEq,and_true]at hargs
     obtain⟨rfl,rfl⟩:=hargs
     cases f with
     | func gf =>
      obtain⟨fn,e,f1,f2,f3,f4,f5,f6⟩:=znH hl h (qT h x0) (qT h y0) hok
      have hr:=run_callFunc_extern (P:=c.P) f1 f2 f3 f4 f5 #[a.eval x0,a.eval y0] w
      rw[f6]at hr
      simp only[Result.andThen_ok]at hr
      refine val (u:=.bool false) (w':=w) ?_ ⟨_,g,β,hv,h.put hdst kB⟩
      have hfe:a.eval (.func gf)=.func (.func gf) #[] #[]:=rfl
      simp[execOp,resolve,hfe,Deferred.ofValue,invoke,hr]
     | _ =>
      unfold ovV at hok
      split at hok
      ·exact hok.2.2.1.elim
      ·exact hok.elim
   ·exact hv.elim
  unfold JD at hv
  split at hv
  ·rename_i gf caps hev
   cases hcm:caps.mapM J0 with
   | none=>rw[hcm]at hv;exact hv.elim
   | some cs =>
    rw[hcm]at hv
    obtain⟨hargs,hfn,Hs,rest,R,hperm,hcall,hK⟩:=hv
    have hf:=qT h f
    rw[hev]at hf
    obtain⟨f',hf⟩:=hf
    simp only[VC]at hf
    obtain⟨_,vs,hf,hva⟩:=hf
    rw[qK rfl f']at hf
    simp only[List.cons.injEq,and_true]at hf
    have ha1:=ze4 h args.toList hargs
    have ha2:=P6 hcm hva
    have ha:=G4 ha1 ha2
    rw[<-List.map_append]at ha
    have hrep:=WE h.rep hperm
    have hC:=hcall g.imm w (args.map a.eval++vs.toArray) hrep (by simpa using ha)
    have hr:(execOp a.eval ⟨dst,.call ⟨.value f,args,argTypes⟩,type,pos,after,guard⟩).run c.P w=.ok (.enter gf (args.map a.eval++vs.toArray)) w:=by
     unfold qR at hfn
     cases hfs:c.P.funcs[gf]? with
     | none=>rw[hfs]at hfn;cases hfn
     | some fn =>
      rw[hfs]at hfn
      simp only[Bool.and_eq_true,bne_iff_ne,ne_eq]at hfn
      have hb:fn.body≠none:=by intro e;simp[e]at hfn
      simp[execOp,resolve,hf,Deferred.ofValue,invoke,callFunc,hfs,hfn.1,hb]
    rw[hr]
    refine hC.mono fun e w' he=>?_
    obtain⟨v,r,imm',H',rfl,hR,hAR,hRep,hStep⟩:=he
    have hS':=h.called hperm hRep hStep
    obtain⟨H'',hsub,hK'⟩:=hK r H' hR hS'.rep.nodup
    refine⟨_,_,β,hK',(hS'.subH hsub).put hdst ?_⟩
    exact dL (g:=g) hRep.imm hAR
  ·rename_i gf fs hev
   cases hcm:fs.mapM J0 with
   | none=>rw[hcm]at hv;exact hv.elim
   | some cs =>
    rw[hcm]at hv
    obtain⟨hargs,hfn,Hs,rest,R,hperm,hcall,hK⟩:=hv
    have hf:=qT h f
    rw[hev]at hf
    obtain⟨f',hf⟩:=hf
    simp only[VC]at hf
    obtain⟨_,vs,hf,hva⟩:=hf
    rw[qK rfl f']at hf
    simp only[List.cons.injEq,and_true]at hf
    have ha1:=ze4 h args.toList hargs
    have ha2:=P6 hcm hva
    have ha:=G4 ha2 ha1
    rw[<-List.map_append]at ha
    have hrep:=WE h.rep hperm
    have hC:=hcall g.imm w (vs.toArray++args.map a.eval) hrep (by simpa using ha)
    have hr:(execOp a.eval ⟨dst,.call ⟨.value f,args,argTypes⟩,type,pos,after,guard⟩).run c.P w=.ok (.enter gf (vs.toArray++args.map a.eval)) w:=by
     unfold qR at hfn
     cases hfs:c.P.funcs[gf]? with
     | none=>rw[hfs]at hfn;cases hfn
     | some fn =>
      rw[hfs]at hfn
      simp only[Bool.and_eq_true,bne_iff_ne,ne_eq]at hfn
      have hb:fn.body≠none:=by intro e;simp[e]at hfn
      simp[execOp,resolve,hf,Deferred.ofValue,invoke,callFunc,hfs,hfn.1,hb]
    rw[hr]
    refine hC.mono fun e w' he=>?_
    obtain⟨v,r,imm',H',rfl,hR,hAR,hRep,hStep⟩:=he
    have hS':=h.called hperm hRep hStep
    obtain⟨H'',hsub,hK'⟩:=hK r H' hR hS'.rep.nodup
    refine⟨_,_,β,hK',(hS'.subH hsub).put hdst ?_⟩
    exact dL (g:=g) hRep.imm hAR
  ·rename_i l hev
   exact absurd hev (hny f args argTypes l rfl)
  ·exact hv.elim
 ·-- against nil
  rename_i op T x y q
  by_cases hsn:cT (ev s y)=true
  ·rw[if_pos hsn]at hv
   obtain⟨u,tu,hr,hk,ht⟩:=zfx (ox:=x) (oy:=y) hv.1 (qT h x) (qT h y) hsn hv.2
   exact val (u:=u) (w':=w) (by
    have e:(execOp a.eval ⟨dst,.binOp op T x y q,type,pos,after,guard⟩)=(do let v <-((do eqGuard op T x y (a.eval x) (a.eval y);binOp op T (a.eval x) (a.eval y)):Sem Value);pure (.value v)):=by
     simp[execOp]
    rw[e,Sem.run_bind,hr];simp) ⟨_,g,β,hk,h.put hdst ht⟩
  ·rw[if_neg hsn]at hv
   obtain⟨u,tu,hr,hk,ht⟩:=WV (o:=⟨dst,.binOp op T x y q,type,pos,after,guard⟩) hl h hv
   exact val hr ⟨_,g,β,hk,h.put hdst ht⟩
 ·-- insert
  rename_i T m k v
  obtain⟨hd0,hv⟩:=hv
  subst hd0
  obtain⟨w',s',hr,hK,hS⟩:=P0 hl h hv
  have hr':(execOp a.eval ⟨none,.insert T m k v,type,pos,after,guard⟩).run c.P w=.ok .skip w':=by simp[execOp,hr]
  rw[hr']
  exact⟨s',g,β,hK,hS⟩
 ·-- the others
  obtain⟨u,tu,hr,hk,ht⟩:=WV (o:=⟨dst,op,type,pos,after,guard⟩) hl h hv
  exact val hr ⟨_,g,β,hk,h.put hdst ht⟩
theorem W9 {c:Ctx} (hl:laidOutB c.P=true) {cf:Cfg} {s:St} {a:Act} {w:World} {g:Gh} {β:Nat->Nat} (h:zF c s a w g β) {o:Oper} (hdst:∀d,o.dst=some d->d<c.n) {K:St->Prop} (hv:yQ c.P cf s o K)
  {Q:Exit->Act->World->Prop}:o.wpIn (fen c.rd) 0 c.P a w (wF c K) Q:=by
 by_cases hy:∃f args tys l,o.op=.call ⟨.value f,args,tys⟩/\ev s f=.av .func (.yl l)
 ·obtain⟨f,args,tys,l,ho,hev⟩:=hy
  obtain⟨dst,op,type,pos,after,guard⟩:=o
  simp only at ho hdst
  subst ho
  have hne:qX c.P f=false:=by
   cases f with
   | func gf=>grind [ev]
   | _=>rfl
  have hv':JD c.P s (ev s f) (args.toList.map (ev s)) dst K:=by
   unfold yQ at hv
   simp only[hne]at hv
   simpa using hv
  rw[hev]at hv'
  obtain⟨hargs,Hs,rest,R,hperm,hyc,hK⟩:=hv'
  have hf:=qT h f
  rw[hev]at hf
  obtain⟨f',hf⟩:=hf
  simp only[VC]at hf
  obtain⟨_,hf⟩:=hf
  rw[qK rfl f']at hf
  simp only[List.cons.injEq,and_true]at hf
  have ha:=ze4 h args.toList hargs
  have hrep:=WE h.rep hperm
  obtain⟨fn,tmps,assign,body,hyr,hround⟩:=hyc g.imm w (args.map a.eval) hrep (by simp_all)
  refine⟨fun _ _=>trivial,?_⟩
  rw[Oper.semAt_eq _ _ _ (by simp)]
  have hr:(execOp a.eval ⟨dst,.call ⟨.value f,args,tys⟩,type,pos,after,guard⟩).run c.P w=.ok (.round l fn tmps assign body) w:=by
   simp_all[execOp,resolve,Deferred.ofValue,invoke]
  rw[hr]
  refine⟨pZ,?_⟩
  refine RoundIn.mono (show RoundIn (fen c.rd) 0 c.P l fn tmps assign body w _ from hround) ?_
  rintro e w' ⟨v,r,imm',H',rfl,hR,hAR,hRep,hStep⟩
  have hS':=h.called hperm hRep hStep
  obtain⟨H'',hsub,hK'⟩:=hK r H' hR hS'.rep.nodup
  refine⟨_,_,β,hK',(hS'.subH hsub).put hdst ?_⟩
  exact dL (g:=g) hRep.imm hAR
 grind [zsN,zga,yQ,zQ]
end Go.Ab
end
