/- What has ended made each of its outs once: plain. No condition. -/
import Derived.Test.YtfkcpballfhddaaGreatDoorS6ToBR1
set_option linter.unusedSimpArgs false
set_option linter.unusedVariables false
set_option linter.unusedSectionVars false
set_option maxRecDepth 100000
namespace Go.Proofs.YtfkcpballfhddaaGreatDoor
open Go Go.Ab
open Classical
variable [Sel] [SelPow] [SelMax]
def zgc (d:List Txt) (p:Txt):List Txt:=if p∈d then d else d++[p]
def ddU (l:List Txt):List Txt:=l.foldl zgc []
theorem zlI {d:List Txt} {p:Txt} (h:d.Nodup):(zgc d p).Nodup:=by
 grind [zgc]
theorem zo2 {d:List Txt} {p q:Txt}:q∈zgc d p<->q∈d\/q=p:=by
 grind [zgc]
theorem znS:∀(l d:List Txt),d.Nodup->(l.foldl zgc d).Nodup/\∀q,q∈l.foldl zgc d<->q∈d\/q∈l
 | [],d,h=>⟨h,by simp⟩
 | p::l,d,h=>by
  obtain⟨h1,h2⟩:=znS l (zgc d p) (zlI h)
  simp_all[zo2,or_assoc]
theorem zoY (l:List Txt):(ddU l).Nodup:=(znS l [] List.nodup_nil).1
theorem zjJ {l:List Txt} {q:Txt}:q∈ddU l<->q∈l:=by
 simp[znS,ddU]
def zkn (l:List Txt):Prop:=l.Pairwise fun a b=>a<b
theorem zoE (l:List Txt):(kU l).Pairwise fun a b=>a<=b:=by
 have h1:=List.pairwise_mergeSort (le:=fun(a b:Txt)=>decide (a<=b)) (fun a b c h1 h2=>by grind) (fun a b=>by grind) l
 exact h1.imp fun h=>by simpa using h
theorem zhQ {l:List Txt} (h:l.Nodup):zkn (kU l):=by
 have h2:(kU l).Nodup:=(JU l).nodup_iff.2 h
 unfold zkn
 have h3:(kU l).Pairwise fun a b=>a<=b/\a≠b:=List.Pairwise.and (zoE l) h2
 exact h3.imp fun h=>Std.lt_of_le_of_ne h.1 h.2
theorem zkn.at_ {l:List Txt} (h:zkn l) (k:Nat) (hk:k+1<l.length):Op.bytesLess l[k] l[k+1]=true:=by
 rw[Go.Proofs.bytesLess_eq]
 simpa using List.pairwise_iff_getElem.1 h k (k+1) (by omega) hk (by omega)
theorem YO.ends {env:List (Txt × Txt)} {cs:List CmdV} {outs:List Txt} {may:Txt->Bool} {kn:List KnV} {b:j9} (h:YO env cs outs may kn b) (ho:b.over=true) :
  (b.why=0/\(JH b).1=⟨1,0,KB b,b.reads⟩/\zkn ((KB b).map (·.path))/\(∀p,p∈(KB b).map (·.path)<->p∈outs)/\(KB b).length=(ddU outs).length)\/(b.why≠0/\(JH b).1=⟨2,b.why,[],b.reads⟩):=by
 obtain⟨wr,hs⟩:=h.s
 have hp:(KB b).map (·.path)=kU (b.wrote.map (·.1)):=by
  unfold KB
  rw[List.map_map]
  exact List.map_id' _
 rcases hs.out ho with⟨h1,h2⟩|h1
 ·left
  have hwp:=cO hs.wrote
  have hri:zkn ((KB b).map (·.path)):=by rw[hp,hwp];exact zhQ hs.nod
  have hme:∀p,p∈(KB b).map (·.path)<->p∈outs:=by
   intro p
   rw[hp,hwp,(JU _).mem_iff]
   exact⟨fun hm=>by obtain⟨w,hw,rfl⟩:=List.mem_map.1 hm;exact hs.own w hw,fun hm=>h2 p hm⟩
  refine⟨h1,by simp_all[JH],hri,hme,?_⟩
  have hnd:((KB b).map (·.path)).Nodup:=by rw[hp,hwp];exact(JU _).nodup_iff.2 hs.nod
  have a1:((KB b).map (·.path)).length<=(ddU outs).length:=List.Nodup.length_le_of_subset hnd fun p hm=>zjJ.2 ((hme p).1 hm)
  have a2:(ddU outs).length<=((KB b).map (·.path)).length:=List.Nodup.length_le_of_subset (zoY _) fun p hm=>(hme p).2 (zjJ.1 hm)
  grind
 simp_all[JH]
end Go.Proofs.YtfkcpballfhddaaGreatDoor
